import Derived.Test.YtmieflnoheifbaaGreatDoorK2
import Derived.Lib.AppendZeros
import Derived.Lib.AppendStr
import Derived.Maps.AppendAt
import Derived.Sort.LoopGhostIn
import Derived.Laws.Sem
set_option linter.all false
section
namespace AF
open Go
section
variable {P : Program} {js : List Tmp} {imp : List FuncId} {w : World} {σ : List OB}
theorem jB{h:wh}{k:Nat}(H:HR w σ h)(hs:qz h k=true): ∃o:OB,σ[k]? =some o∧qo (qu k h)=o.ver:=by
 unfold qz at hs;unfold qu at hs ⊢;split at hs
 ·rename_i v ty cs hk;have hlt:k<σ.length:=by rw[H.len];exact (List.getElem?_eq_some_iff.1 hk).1
  have ho:σ[k]? =some σ[k]:=List.getElem?_eq_getElem hlt
  have:=H.obj k _ _ hk ho
  exact⟨_,ho,by rw[hk];exact this.1.symm⟩
 ·rename_i v hk;have hlt:k<σ.length:=by rw[H.len];exact (List.getElem?_eq_some_iff.1 hk).1
  have ho:σ[k]? =some σ[k]:=List.getElem?_eq_getElem hlt
  have:=H.obj k _ _ hk ho
  exact⟨_,ho,by rw[hk];exact this.1.symm⟩
 ·rename_i v es hk;have hlt:k<σ.length:=by rw[H.len];exact (List.getElem?_eq_some_iff.1 hk).1
  have ho:σ[k]? =some σ[k]:=List.getElem?_eq_getElem hlt
  have:=H.obj k _ _ hk ho
  exact⟨_,ho,by rw[hk];exact this.1.symm⟩
 ·cases hs
theorem qe3{h:wh}{k:Nat}(hs:qz h k=true): ∀s ts L,h[k]? ≠some (.lp s ts L):=by
 intro s ts L e;simp[qz,qu,e]at hs
theorem Uy{w w':World}(h:w.grownBy w' none)(r:Option Nat):w.grownBy w' r:=⟨h.os,h.tape,h.output,h.size,λk hk _=>h.block k hk (by simp)⟩
theorem HR.freshB{w':World}{h:wh}(H:HR w σ h){k:Nat}{o:OB}(hk:σ[k]? =some o){b:Nat}{arr:Array Value}{T:TypeId}(hg:w.grownBy w' none)(hb:w.heap.size<=b)(hb':Blk w' b arr T)
  {cs:wi} (hl:cs.length<=arr.size) (h1: ∀(i:Nat) x,i<cs.length->arr[i]? =some x->x.oneCell'=true)
  (hv: ∀(i:Nat) c x,cs[i]? =some c->arr[i]? =some x->VR w σ c x):
  ∃σ',HR w' σ' (h.set k (.mem (o.ver+1) T cs))∧Ext w σ w' σ'∧σ'[k]? =some { blk:=some b,ver:=o.ver+1,size:=arr.size,ty:=T }:=by
 have hlt:b<w'.heap.size:=hb'.lt;have hkl:k<σ.length:=(List.getElem?_eq_some_iff.1 hk).1;obtain⟨g1,g2⟩:=H.update (w':=w') (o':= { blk:=some b,ver:=o.ver+1,size:=arr.size,ty:=T }) (a':= .mem (o.ver+1) T cs) hk (Uy hg _) (by simp) (by simp) (by rintro b' ⟨⟩;exact⟨.inr hb,hlt⟩)
  (λb r _ hr=>⟨r,(hg.block b (Array.getElem?_eq_some_iff.1 hr).1 (by simp)).trans hr⟩)
  (λe=>⟨rfl,rfl,b,arr,rfl,hb',rfl,hl,h1,λi c x hc hx=>(hv i c x hc hx).ext e⟩)
 exact⟨_,g1,g2,by simp[hkl]⟩
theorem HR.fresh{w':World}{h:wh}(H:HR w σ h){k:Nat}{o:OB}(hk:σ[k]? =some o){b:Nat}{arr:Array Value}{T:TypeId}(hg:w.grownBy w' none)(hb:w.heap.size<=b)(hb':w'.heap[b]? =some (.cells arr T (0,0)))
  {cs:wi} (hl:cs.length<=arr.size) (h1: ∀(i:Nat) x,i<cs.length->arr[i]? =some x->x.oneCell'=true)
  (hv: ∀(i:Nat) c x,cs[i]? =some c->arr[i]? =some x->VR w σ c x):
  ∃σ',HR w' σ' (h.set k (.mem (o.ver+1) T cs))∧Ext w σ w' σ'∧σ'[k]? =some { blk:=some b,ver:=o.ver+1,size:=arr.size,ty:=T }:=by
 have hlt:b<w'.heap.size:=(Array.getElem?_eq_some_iff.1 hb').1;have hkl:k<σ.length:=(List.getElem?_eq_some_iff.1 hk).1;obtain⟨g1,g2⟩:=H.update (w':=w') (o':= { blk:=some b,ver:=o.ver+1,size:=arr.size,ty:=T }) (a':= .mem (o.ver+1) T cs) hk (Uy hg _) (by simp) (by simp) (by rintro b' ⟨⟩;exact⟨.inr hb,hlt⟩)
  (λb r _ hr=>⟨r,(hg.block b (Array.getElem?_eq_some_iff.1 hr).1 (by simp)).trans hr⟩)
  (λe=>⟨rfl,rfl,b,arr,rfl,.mk hb',rfl,hl,h1,λi c x hc hx=>(hv i c x hc hx).ext e⟩)
 exact⟨_,g1,g2,by simp[hkl]⟩
theorem jJ(o:Obj):w.grownBy (w.alloc o) none:=World.grownBy_alloc w o none
def U9(P:Program)(w:World)(σ:List OB)(ρ:Operand->Value)(o:Oper)(t:wi)(d:Option Nat)(nx:Nx):Prop:=
 ∃(nv:Next) (x:Value) (w':World) (σ':List OB) (v:AV) (h':wh),(execOp ρ o).run P w= .ok nv w'∧(nv= .value x∨(nv= .skip∧x=Go.undef))∧HR w' σ' h'∧VR w' σ' v x∧Ext w σ w' σ'∧nx (qY t d v) h'
variable {h : wh} {b : Nat} {t : wi} {d : Option Nat} {nx : Nx} {ρ : Operand -> Value}
theorem qkH{o:Oper}{j sz:Nat}{ty:TypeId}(ho:o.op= .assign (.const (.slice none 0 0))∨o.op= .move (.const (.slice none 0 0)))(hρ: ∀c,ρ (.const c)=c)(H:HR w σ h){vs:wi}(he:effE b h (.nilo j sz ty) vs t d nx):
  U9 P w σ ρ o t d nx:=by
 match vs,he with
 | [],⟨hs,hn⟩=>
  obtain⟨ob,hk,hver⟩:=jB H hs;obtain⟨g1,g2⟩:=H.kill hk;have hkl:b+j<σ.length:=(List.getElem?_eq_some_iff.1 hk).1;rw[hver]at hn;refine⟨.value (.slice none 0 0),.slice none 0 0,w,_,_,_,?_,.inl rfl,g1,?_,g2,hn⟩
  ·rcases ho with ho|ho<;>simp[execOp,ho,hρ]
  ·exact .osl { ob with blk:=none,ver:=ob.ver+1 } (by simp[hkl]) ⟨_,_,_,rfl⟩ (Nat.le_refl _) (λ_=> .inl ⟨rfl,rfl,rfl,rfl⟩)
theorem qoF{o:Oper}{j:Nat}{ty:TypeId}{z:wi}(ho:o.op= .alloc ty)(hz:qcR P ty=some z)(H:HR w σ h){vs:wi}(he:effE b h (.alloc j ty z) vs t d nx):U9 P w σ ρ o t d nx:=by
 match vs,he with
 | [],⟨hs,hn⟩=>
  obtain⟨ob,hk,hver⟩:=jB H hs;rw[hver]at hn;obtain⟨i,zv,hi,hzv,hzs,hzo⟩:=U8 hz;obtain⟨hz1,hz2⟩:=qdG (w:=w) (ow:=own σ) hzo;obtain⟨σ',g1,g2,g3⟩:=H.fresh hk (w':=w.alloc (.cells zv.cells ty)) (b:=w.heap.size) (arr:=zv.cells) (T:=ty) (cs:=z) (jJ _) (Nat.le_refl _) (heap_alloc_new w _)
   (by rw[<-hz1];simp) (λi x _ hx=>qb8 hzo i x (by simpa using hx)) (λi c x hc hx=> .imm (hz2 i c x hc (by simpa using hx)))
  refine⟨.value (.pointer (some ⟨w.heap.size,0,none⟩)),_,_,σ',_,_,?_,.inl rfl,g1,?_,g2,hn⟩
  ·simp only[execOp,ho,Instr.alloc,Sem.run_bind,qdR hi hzv,Result.andThen_ok];rfl
  ·exact .op _ g3 ⟨_,rfl⟩ (Nat.le_refl _) (λ_=>⟨_,rfl,rfl⟩)
theorem qxX{o:Oper}{j:Nat}{ty:TypeId}{x:Operand}(ho:o.op= .box ty x)(H:HR w σ h){vs:wi}(hv:VRs w σ vs [ρ x])(he:effE b h (.box j ty) vs t d nx):U9 P w σ ρ o t d nx:=by
 match vs,hv,he with
 | [v],hv,⟨⟨hs,hso⟩,hn⟩=>
  obtain⟨y,hy,hr⟩:=hv.one;cases hy;obtain⟨ob,hk,hver⟩:=jB H hs;rw[hver]at hn;obtain⟨c1,c3,c2⟩:=qeb hr hso;obtain⟨σ',g1,g2,g3⟩:=H.fresh hk (w':=w.alloc (.cells (ρ x).cells ty)) (b:=w.heap.size) (arr:=(ρ x).cells) (T:=ty) (cs:=v.cells) (jJ _) (Nat.le_refl _) (heap_alloc_new w _)
   (by omega) (λi x _ hx=>c3 i x hx) c2
  refine⟨.value (.pointer (some ⟨w.heap.size,0,none⟩)),_,_,σ',_,_,?_,.inl rfl,g1,?_,g2,hn⟩
  ·simp only[execOp,ho,Instr.box];rfl
  ·exact .op _ g3 ⟨_,rfl⟩ (Nat.le_refl _) (λ_=>⟨_,rfl,rfl⟩)
theorem qbQ{g:Nat}{new:Array Value}:w.grownBy (w.setRow g new) (some g):=by
 refine⟨rfl,rfl,rfl,by simp[World.setRow],λk hk hne=> ?_⟩
 have:k≠g:=λe=>hne (by rw[e])
 simp[World.setRow,Array.getElem?_modify,Ne.symm this]
theorem qbP{g:Nat}{cur new:Array Value}{ty:TypeId}(hg:Blk w g cur ty)(hs:new.size=cur.size):Blk (w.setRow g new) g new ty∧w.grownBy (w.setRow g new) (some g):=by
 obtain⟨T,fz,h1,h2⟩:=hg;exact⟨⟨T,fz,by rw[hs];exact h1,setRow_heap w g cur new T fz h2⟩,qbQ⟩
theorem gK(P:Program)(g o:Nat)(t:TypeId)(fz:Nat×Nat): ∀(vs:List Value) (i:Nat) (cur:Array Value) (w:World),w.heap[g]? =some (.cells cur t fz)->(fz=(0,0)∨cur.size<=fz.1)->o+i+vs.length<=cur.size->(∀v∈vs,v.oneCell'=true)->
  (storeCells ⟨g,o,none⟩ vs i).run P w= .ok () (w.setRow g (cur.toList.take (o+i)++vs++cur.toList.drop (o+i+vs.length)).toArray)
 | [],i,cur,w,hg,_,_,_=>by
  simp only[storeCells,List.append_nil,List.length_nil,Nat.add_zero,List.take_append_drop,Array.toArray_toList];rw[setRow_self w g cur t fz hg];rfl
 |v::rest,i,cur,w,hg,hfz,hl,h1=>by
  have hi:o+i<cur.size:=by simp at hl;omega
  have hadd:(⟨g,o,none⟩:Addr).add i=⟨g,o+i,none⟩:=by unfold Addr.add;split<;>simp_all
  have hcell:w.cell? ⟨g,o+i,none⟩=some cur[o+i]:=by simp[World.cell?,hg,hi]
  have hfro:w.frozen? ⟨g,o+i,none⟩=false:=by
   obtain⟨lo,hi'⟩:=fz;simp only[World.frozen?,hg,Bool.and_eq_false_iff,decide_eq_false_iff_not];rcases hfz with e|e
   ·cases e;right;omega
   ·left;simp only at e;omega
  have hst:(store ((⟨g,o,none⟩:Addr).add i) v).run P w= .ok () (w.setRow g (cur.setIfInBounds (o+i) v)):=by
   rw[hadd,run_store P w _ v _ (h1 v (by simp)),hcell];simp[hfro,setCell_eq_setRow w g (o+i) cur t fz v hg]
  have ih:=gK P g o t fz rest (i+1) (cur.setIfInBounds (o+i) v) (w.setRow g (cur.setIfInBounds (o+i) v)) (setRow_heap w g cur _ t _ hg) (by simpa using hfz) (by simp at hl ⊢;omega) (λx hx=>h1 x (by simp[hx]));simp only[storeCells,Sem.run_bind,hst,Result.andThen_ok,ih,setRow_setRow];congr 3;have e:=list_seg_step cur.toList (o+i) v rest (by simp at hl ⊢;omega);simpa[Array.toList_setIfInBounds,Nat.add_assoc] using e
theorem b6{P:Program}{g o:Nat}{ty:TypeId}{vs:List Value}{cur:Array Value}(hg:Blk w g cur ty)(hl:o+0+vs.length<=cur.size)(h1: ∀v∈vs,v.oneCell'=true):
  (storeCells ⟨g,o,none⟩ vs 0).run P w= .ok () (w.setRow g (cur.toList.take (o+0)++vs++cur.toList.drop (o+0+vs.length)).toArray):=by
 obtain⟨T,fz,h2,h3⟩:=hg;exact gK P g o T fz vs 0 cur w h3 (h2.elim (λh=> .inl h.2) (λh=> .inr (by rw[h.2];exact Nat.le_refl _))) hl h1
theorem qoH{o:Oper}{ty:TypeId}{a x:Operand}{i:TypeInfo}(ho:o.op= .store ty a x)(hi:P.info? ty=some i)(H:HR w σ h){vs:wi}(hv:VRs w σ vs [ρ a,ρ x])(he:effE b h (.store i.size) vs t d nx):U9 P w σ ρ o t d nx:=by
 match vs,hv,he with
 | [.op k ver off,v],hv,⟨⟨hl,hso,hn,hle⟩,hnx⟩=>
  obtain⟨p,q,hpq,ha,hb⟩:=hv.two;cases hpq;obtain⟨cs,ob,bl,arr,g1,hx,g2,g3,g4,g5,g6,g7,g9,g8⟩:=kH H ha hl;obtain⟨c1,c3,c2⟩:=qeb hb hso;rw[g1,Option.getD_some]at hle hnx;have hst:=b6 (P:=P) (o:=off) (vs:=(ρ x).cells.toList) g5 (by simp;omega) (λv hv=>by
   obtain⟨n,hn⟩:=List.getElem?_of_mem hv
   exact c3 n v (by simpa using hn))
  simp only[Nat.add_zero,Array.length_toList]at hst;generalize hnew:(arr.toList.take off++(ρ x).cells.toList++arr.toList.drop (off+(ρ x).cells.size)).toArray=new at hst;have hnl:new.toList=arr.toList.take off++(ρ x).cells.toList++arr.toList.drop (off+i.size):=by rw[<-hnew,c1,hn]
  have hsz:new.size=arr.size:=by rw[<-Array.length_toList,hnl];simp;omega
  obtain⟨r1,r2⟩:=qbP (new:=new) g5 hsz;have hkc:=jL H g1;obtain⟨_,_,_,_,_,hkm,_⟩:=hkc;have hty:qnO (qu k h)=ob.ty:=by
   simp only[qu];obtain⟨o',_,_,e1,_,e2,_⟩:=jL H g1;rw[g2]at e1;cases e1;rw[e2];rfl
  have hrow:w.grownBy (w.setRow bl new) ob.blk:=by rw[g4];exact r2
  obtain⟨u1,u2⟩:=H.update (w':=w.setRow bl new) (o':=ob) (a':= .mem ver ob.ty (cs.take off++v.cells++cs.drop (off+i.size))) g2 hrow (Nat.le_refl _) (λ_=>rfl) (by
    intro b' e;rw[g4]at e;cases e;exact⟨.inl g4,r1.lt⟩) (λb r e hr=>by rw[g4]at e;cases e;exact absurd hr (g5.noloop r))
   (λe=>⟨g3,rfl,bl,new,g4,r1,by omega,by simp;omega,λn y hny hy=>by
     rw[<-Array.getElem?_toList,hnl,zg (by simp;omega) (by simp;omega)]at hy;split at hy
     ·exact g9 n y (by simp at hny;omega) (by simpa using hy)
     ·split at hy
      ·exact c3 _ y (by simpa using hy)
      ·exact g9 n y (by simp at hny;omega) (by simpa using hy),λn c y hc hy=>by
     rw[zg hn hle]at hc;rw[<-Array.getElem?_toList,hnl,zg (by simp;omega) (by simp;omega)]at hy;split at hc
     ·rename_i hlt;rw[if_pos hlt]at hy;exact (g8 n c y hc (by simpa using hy)).ext e
     ·rename_i hlt;rw[if_neg hlt]at hy;split at hc
      ·rename_i hlt';rw[if_pos hlt']at hy;exact (c2 _ c y hc (by simpa using hy)).ext e
      ·rename_i hlt';rw[if_neg hlt']at hy
       exact (g8 n c y hc (by simpa using hy)).ext e⟩)
  refine⟨.skip,Go.undef,_,_,.tup [],_,?_,.inr ⟨rfl,rfl⟩,u1,.imm (.tup rfl λi c x hc=>by simp at hc),u2,by rw[hty]at hnx;exact hnx⟩;simp[execOp,ho,hx,Instr.storeAt,Instr.sureAddr,storeVar,jQ hi,c1,hn,hst]
theorem UV(z:wi): ∀(n:Nat),(zM z n).length=n*z.length∧ ∀i,i<n*z.length->(zM z n)[i]? =z[i%z.length]? :=by
 intro n
 induction n with
 |zero=>exact⟨by simp[zM],λi hi=>by omega⟩
 |succ n ih=>
  refine⟨by simp[zM,ih.1,Nat.add_mul,Nat.add_comm],λi hi=> ?_⟩;simp only[zM]
  by_cases h:i<z.length
  ·rw[List.getElem?_append_left h,Nat.mod_eq_of_lt h]
  ·rw[List.getElem?_append_right (by omega),ih.2 _ (by rw[Nat.add_mul]at hi;omega)];congr 1;exact (Nat.mod_eq_sub_mod (by omega)).symm
theorem qgW{z:wi}{zv:Array Value}(hz:qnL zv.toList=some z)(n:Nat):(zM z n).length=(madeCells zv (n*zv.size)).size∧(∀(i:Nat) x,(madeCells zv (n*zv.size))[i]? =some x->x.oneCell'=true)∧
  ∀(i:Nat) c x,(zM z n)[i]? =some c->(madeCells zv (n*zv.size))[i]? =some x->VR w σ c x:=by
 obtain⟨h1,h2⟩:=qdG (w:=w) (ow:=own σ) hz;have hl:zv.size=z.length:=by simpa using h1
 have hget: ∀(i:Nat) x,(madeCells zv (n*zv.size))[i]? =some x->i<n*zv.size∧zv[i%zv.size]? =some x:=by
  intro i x hx;have hi:i<n*zv.size:=by
   have:=(Array.getElem?_eq_some_iff.1 hx).1
   simpa[madeCells] using this
  have hm:i%zv.size<zv.size:=Nat.mod_lt _ (by
   rcases Nat.eq_zero_or_pos zv.size with h|h
   ·rw[h]at hi;omega
   ·exact h)
  refine⟨hi,?_⟩;simp[madeCells,hi]at hx;rw[Array.getElem?_eq_getElem hm,<-hx];simp[getElem!_pos,hm]
 refine⟨by rw[size_madeCells,(UV z n).1,hl],λi x hx=> ?_,λi c x hc hx=> ?_⟩
 ·obtain⟨_,h4⟩:=hget i x hx;exact qb8 hz _ x (by simpa using h4)
 ·obtain⟨h3,h4⟩:=hget i x hx;rw[(UV z n).2 i (by rw[<-hl];exact h3),<-hl]at hc;exact .imm (h2 _ c x hc (by simpa using h4))
theorem qoG{o:Oper}{j:Nat}{ty e:TypeId}{x y:Operand}{i:TypeInfo}{z:wi}(ho:o.op= .makeSlice ty x y)(ht:P.underlying ty=some (.slice e))(hz:qcR P e=some z)(hi:P.info? e=some i)(H:HR w σ h){vs:wi}
  (hv:VRs w σ vs [ρ x,ρ y]) (he:effE b h (.mkslc j i.size e z i.bytes) vs t d nx):U9 P w σ ρ o t d nx:=by
 match vs,hv,he with
 | [.int .i64 l,.int .i64 c],hv,⟨⟨hs,hzl,h0,hlc,h1,h2⟩,hn⟩=>
  subst hlc;obtain⟨p,q,hpq,ha,hb⟩:=hv.two;cases hpq;have ea:=zV ha;have eb:=zV hb;obtain⟨ob,hk,hver⟩:=jB H hs;rw[hver]at hn;obtain⟨i',zv,hi',hzv,hzs,hzo⟩:=U8 hz;rw[hi]at hi';cases hi';have hmk:=run_make (P:=P) w ty e i zv ht hi hzv .i64 .i64 l l h0 (Int.le_refl _) (by rw[Int.mul_comm];omega) (by omega);rw[<-hzs]at hmk;obtain⟨m1,m2,m3⟩:=qgW (w:=w) (σ:=σ) hzo l.toNat;obtain⟨σ',g1,g2,g3⟩:=H.fresh hk (w':=w.alloc (.cells (madeCells zv.cells (l.toNat*zv.cells.size)) e)) (b:=w.heap.size) (cs:=zM z l.toNat) (jJ _) (Nat.le_refl _) (heap_alloc_new w _)
   (by omega) (λi x _ hx=>m2 i x hx) m3
  refine⟨.value (.slice (some ⟨w.heap.size,0,none⟩) l.toNat l.toNat),_,_,σ',_,_,?_,.inl rfl,g1,?_,g2,hn⟩
  ·simp only[execOp,ho,ea,eb,Sem.run_bind,hmk,Result.andThen_ok,Sem.run_pure]
  ·refine .osl _ g3 ⟨_,_,_,rfl⟩ (Nat.le_refl _) (λ_=> .inr ⟨_,l.toNat,rfl,rfl,Nat.le_refl _,by unfold maxLen;omega,?_⟩);rw[Nat.zero_add,<-m1,(UV z _).1,hzl]
theorem qtd{o:Oper}{j n:Nat}{ty e:TypeId}{ps:Array (Nat×Operand)}{i:TypeInfo}{z:wi}(ho:o.op= .buildSlice ty n ps)(ht:P.underlying ty=some (.slice e))(hz:qcR P e=some z)(hi:P.info? e=some i)(hn24:n*i.size<=16777216)(H:HR w σ h)
  {vs:wi} (hv:VRs w σ vs ((ps.toList.map (·.2)).map ρ)) (he:effE b h (.bslc j i.size n e z (ps.toList.map λp=>(p.1*i.size,i.size))) vs t d nx):U9 P w σ ρ o t d nx:=by
 have he':(qz h (b+j)=true∧z.length=i.size∧UE (n*i.size) (ps.toList.map λp=>(p.1*i.size,i.size)) vs∧n<=140737488355328)∧
   nx (qY t d (.osl (b+j) (qo (qu (b+j) h)+1) i.size 0 n)) (qt (b+j) h (.mem (qo (qu (b+j) h)+1) e (UR (zM z n) (ps.toList.map λp=>(p.1*i.size,i.size)) vs))):=by cases vs<;>exact he
 obtain⟨⟨hs,hzl,hok,h47⟩,hn⟩:=he';obtain⟨ob,hk,hver⟩:=jB H hs;rw[hver]at hn;obtain⟨i',zv,hi',hzv,hzs,hzo⟩:=U8 hz;rw[hi]at hi';cases hi';obtain⟨m1,m2,m3⟩:=qgW (w:=w) (σ:=σ) hzo n;have hml:=(UV z n).1;obtain⟨out,o1,o2,o4,o3⟩:=qha (w:=w) (σ:=σ) (place:=λk=>some (k*i.size,i.size)) (is:=ps.toList.map (·.1)) (l:=ps.toList.map λp=>(p.1*i.size,i.size)) (vs:=vs) (z:=zM z n) (cells:=madeCells zv.cells (n*zv.cells.size))
  (λj k p hj hp=>by
   rw[List.getElem?_map]at hj hp;cases hq:ps.toList[j]? with
   |none=>simp[hq]at hj
   |some q=>simp[hq]at hj hp;subst hj;rw[<-hp]) (by simp) hv (by rw[hml,hzl];exact hok) (by omega) m2 m3
 have hzip:(ps.map λx=>(x.1,ρ x.2)).toList=(ps.toList.map (·.1)).zip ((ps.toList.map (·.2)).map ρ):=by
  simp[List.zip_map',Array.toList_map]
 obtain⟨σ',g1,g2,g3⟩:=H.fresh hk (w':=w.alloc (.cells out e)) (b:=w.heap.size) (cs:=UR (zM z n) (ps.toList.map λp=>(p.1*i.size,i.size)) vs) (jJ _) (Nat.le_refl _) (heap_alloc_new w _)
  (by omega) (λi x _ hx=>o4 i x hx) o3
 have hout:out.size=n*i.size:=by
  have: ∀(l:List (Nat×Nat)) (vs:wi) (z:wi),UE z.length l vs->(UR z l vs).length=z.length:=by
   intro l
   induction l with
   |nil=>intro vs z hh;cases vs<;>rfl
   |cons p l ih=>
    intro vs z hh;obtain⟨off,m⟩:=p;cases vs with
    |nil=>exact hh.elim
    |cons v vs=>
     obtain⟨q1,q2,q3,q4⟩:=hh;have hl:(z.take off++v.cells++z.drop (off+m)).length=z.length:=by simp;omega
     show (UR (z.take off++v.cells++z.drop (off+m)) l vs).length=_;rw[ih vs _ (by rw[hl];exact q4),hl]
  rw[o2,this _ _ _ (by rw[hml,hzl];exact hok),hml,hzl]
 refine⟨.value (.slice (some ⟨w.heap.size,0,none⟩) n n),_,_,σ',_,_,?_,.inl rfl,g1,?_,g2,hn⟩
 ·have hn16: ¬(n*i.size>2^24):=by omega
  by_cases h0:n*i.size=0
  ·have hrow:((Array.range (n*i.size)).map (λk=>(#[]:Array Value)[k%(#[]:Array Value).size]!))=madeCells zv.cells (n*zv.cells.size):=by
    unfold madeCells;rw[hzs,h0];simp
   simp only[execOp,ho,Instr.buildSlice,Sem.run_bind,zC ht,jQ hi,Result.andThen_ok,if_neg hn16,if_pos h0,Sem.run_pure,hrow,hzip,o1,newRow,newObj];rfl
  ·have hrow:((Array.range (n*i.size)).map (λk=>zv.cells[k%zv.cells.size]!))=madeCells zv.cells (n*zv.cells.size):=by
    unfold madeCells;rw[<-hzs]
   simp only[execOp,ho,Instr.buildSlice,Sem.run_bind,zC ht,jQ hi,Result.andThen_ok,if_neg hn16,if_neg h0,Sem.run_pure,qdR hi hzv,hrow,hzip,o1,newRow,newObj];rfl
 ·refine .osl _ g3 ⟨_,_,_,rfl⟩ (Nat.le_refl _) (λ_=> .inr ⟨_,n,rfl,rfl,Nat.le_refl _,by unfold maxLen;omega,?_⟩);simp[hout]
theorem qoW{f:Nat->wi}{sz:Nat}: ∀(n:Nat),(∀i,i<n->(f i).length=sz)->((List.range n).flatMap f).length=n*sz∧ ∀i,i<n*sz->((List.range n).flatMap f)[i]? =(f (i/sz))[i%sz]? :=by
 intro n
 induction n with
 |zero=>intro _;exact⟨by simp,λi hi=>by omega⟩
 |succ n ih=>
  intro h;obtain⟨h1,h2⟩:=ih (λi hi=>h i (by omega));rw[List.range_succ,List.flatMap_append];have hn:=h n (by omega);refine⟨by simp[h1,hn,Nat.add_mul],λi hi=> ?_⟩
  by_cases hlt:i<n*sz
  ·rw[List.getElem?_append_left (by omega),h2 i hlt]
  ·rw[List.getElem?_append_right (by omega),h1];have hsz:0<sz:=by
    rcases Nat.eq_zero_or_pos sz with h0|h0
    ·rw[h0]at hi;omega
    ·exact h0
   have e1:i/sz=n:=by
    apply Nat.div_eq_of_lt_le<;>rw[Nat.mul_comm]<;>(try rw[Nat.mul_comm])<;>omega
   have e2:i%sz=i-n*sz:=by
    rw[<-e1]
    have:=Nat.div_add_mod i sz
    rw[Nat.mul_comm]at this;omega
   simp[e1,e2]
theorem qhg{h:wh}(H:HR w σ h){y:AV}{x:Value}(hy:VR w σ y x){n sz:Nat}{cs:wi}(hc:ql h y=some (n,cs))(hl:cs.length=n*sz):
  (x= .slice none 0 0∧n=0)∨ ∃(a:Addr) (cap:Nat) (news:List Value),x= .slice (some a) n cap∧news.length=n*sz∧(∀(j:Nat) u,news[j]? =some u->w.cell? (a.add j)=some u)∧(∀u∈news,u.oneCell'=true)∧
   ∀(i:Nat) c u,cs[i]? =some c->news[i]? =some u->VR w σ c u:=by
 unfold ql at hc;split at hc
 ·cases hc;exact .inl ⟨qee hy,rfl⟩
 ·cases hc;obtain⟨a,cap,hx,_⟩:=qqY hy;exact .inr ⟨a,cap,[],hx,by simp,by simp,by simp,by simp⟩
 ·rename_i m f;cases hc;rcases qfg hy with⟨h0,a0,hx⟩|⟨sz',b,off,cap,vals,hx,g1,g2,g3,g4,g5,g6,g8,g7⟩
  ·subst h0;cases a0 with
   |none=>exact .inl ⟨hx,rfl⟩
   |some ad=>exact .inr ⟨ad,0,[],hx,by simp,by simp,by simp,by simp⟩
  ·obtain⟨f1,f2⟩:=qoW n g5;have hss:n*sz'=n*sz:=by rw[<-f1,hl]
   refine .inr ⟨⟨b,off,none⟩,cap,(List.range (n*sz')).map λi=>vals (i/sz') (i%sz'),hx,by simp[hss],λj u hj=> ?_,λu hu=> ?_,λi c u hi hu=> ?_⟩
   all_goals
    have key: ∀i,i<n*sz'->i/sz'<n∧i%sz'<sz':=by
     intro i hi;have hpos:0<sz':=by
      rcases Nat.eq_zero_or_pos sz' with h0|h0
      ·rw[h0]at hi;omega
      ·exact h0
     exact⟨by rw[Nat.div_lt_iff_lt_mul hpos];exact hi,Nat.mod_lt _ hpos⟩
   ·have hj':j<n*sz':=by have:=(List.getElem?_eq_some_iff.1 hj).1;simpa using this
    simp[hj']at hj;subst hj;obtain⟨k1,k2⟩:=key j hj';rw[ku,<-g6 _ _ k1 k2];congr 2
    have:=Nat.div_add_mod j sz'
    rw[Nat.mul_comm]at this;omega
   ·obtain⟨i,hi,rfl⟩:=List.mem_map.1 hu;obtain⟨k1,k2⟩:=key i (by simpa using hi);exact g8 _ _ k1 k2
   ·have hi':i<n*sz':=by rw[<-f1];exact (List.getElem?_eq_some_iff.1 hi).1
    rw[f2 i hi']at hi;simp[hi']at hu;subst hu;exact .imm (g7 _ _ c (key i hi').1 hi)
 ·rename_i k ver sz' off m;split at hc
  ·rename_i v ty ds hk;split at hc
   ·rename_i hcond;cases hc;obtain⟨rfl,hle⟩:=hcond;have hlive:qH h k v=true:=by simp[qH,hk]
    rcases jZ H hy hlive with⟨_,_,_,_,g1,_⟩|⟨cs',ob,b,cap,arr,g1,hx,g2,g3,g4,g5,g6,g7,g8,g9,g10,g12,g11⟩
    ·simp[qu]at hk;rw[hk]at g1;cases g1
    ·simp[qu]at hk;rw[hk]at g1;cases g1;have hss:n*sz'=n*sz:=by rw[<-hl];simp;omega
     refine .inr ⟨⟨b,off,none⟩,cap,(arr.toList.drop off).take (n*sz'),hx,by simp;omega,λj u hj=> ?_,λu hu=> ?_,λi c u hi hu=> ?_⟩
     ·rw[List.getElem?_take]at hj;split at hj
      ·rw[List.getElem?_drop]at hj;rw[ku,kh g8];simpa using hj
      ·cases hj
     ·obtain⟨i,hi⟩:=List.getElem?_of_mem hu;rw[List.getElem?_take]at hi;split at hi
      ·rw[List.getElem?_drop]at hi;exact g12 (off+i) u (by omega) (by simpa using hi)
      ·cases hi
     ·rw[List.getElem?_take]at hi hu;split at hi
      ·rename_i hlt;rw[if_pos hlt]at hu;rw[List.getElem?_drop]at hi hu;exact g11 _ c u hi (by simpa using hu)
      ·cases hi
   ·cases hc
  ·rename_i v hk;split at hc
   ·rename_i hcond;cases hc;obtain⟨rfl,rfl⟩:=hcond;have hlive:qH h k v=true:=by simp[qH,hk]
    rcases jZ H hy hlive with⟨_,_,_,_,g1,_,_,hx⟩|⟨cs',ob,b,cap,arr,g1,_⟩
    ·exact .inl ⟨hx,rfl⟩
    ·simp[qu]at hk;rw[hk]at g1;cases g1
   ·cases hc
  ·cases hc
 ·cases hc
theorem qpM{e:TypeId}{i:TypeInfo}(h:okZ P e=some i): ∃z,P.info? e=some i∧i.zero=some z∧z.cells.size=i.size∧0<i.size:=by
 unfold okZ at h;split at h
 ·rename_i i' hi;split at h
  ·rename_i z hz;split at h
   ·rename_i hc;cases h;exact⟨z,hi,hz,hc.1,hc.2.1⟩
   ·cases h
  ·cases h
 ·cases h
theorem qAv{e:TypeId}{i:TypeInfo}(h:okZ P e=some i):e<qbI:=by
 unfold okZ at h;split at h
 ·split at h
  ·split at h
   ·rename_i hc;exact hc.2.2
   ·cases h
  ·cases h
 ·cases h
theorem qAu{e:TypeId}(h:okB P e=true):e<qbI:=by
 unfold okB at h;split at h
 ·split at h
  ·exact (of_decide_eq_true h).2.2
  ·cases h
 ·cases h
theorem HR.appended{w':World}{h:wh}(H:HR w σ h){k:Nat}{o:OB}(hk:σ[k]? =some o)(hlp: ∀s ts L,h[k]? ≠some (.lp s ts L)){base sz n:Nat}{e:TypeId}{v':Value}{xs:List Value}(hown:w'.ownsRow base e sz v' n xs)(hg:w.grownBy w' o.blk)
  (hat:v'.ownBlock=o.blk∨v'.ownBlock=none∨ ∃g,v'.ownBlock=some g∧w.heap.size<=g) {cs:wi} (hl:cs.length=xs.length) (h1: ∀u∈xs,u.oneCell'=true) (hv: ∀(i:Nat) c x,cs[i]? =some c->xs[i]? =some x->VR w σ c x) {a:AObj}
  (ha:(v'= .slice none 0 0∧a= .emp (o.ver+1))∨(v'≠ .slice none 0 0∧a= .mem (o.ver+1) e cs)):
  ∃σ',HR w' σ' (h.set k a)∧Ext w σ w' σ'∧VR w' σ' (.osl k (o.ver+1) sz 0 n) v':=by
 have hkl:k<σ.length:=(List.getElem?_eq_some_iff.1 hk).1;rcases hown.2 with⟨hv',hn⟩|⟨g,cap,cur,hv',_,hblk,hnc,hcm,hcs,htake⟩
 ·rcases ha with⟨_,rfl⟩|⟨h',_⟩
  ·obtain⟨u1,u2⟩:=H.update (w':=w') (o':= { o with blk:=none,ver:=o.ver+1 }) (a':= .emp (o.ver+1)) hk hg (by simp) (by simp) (by simp) (λb r e hr=>absurd hr (H.noloop hk hlp b r e)) (λ_=>⟨rfl,rfl⟩);exact⟨_,u1,u2,.osl { o with blk:=none,ver:=o.ver+1 } (by simp[hkl]) ⟨_,_,_,hv'⟩ (Nat.le_refl _) (λ_=> .inl ⟨rfl,rfl,hn,hv'⟩)⟩
  ·exact absurd hv' h'
 ·rcases ha with⟨h',_⟩|⟨_,rfl⟩
  ·rw[hv']at h';cases h'
  have hlt:g<w'.heap.size:=(Array.getElem?_eq_some_iff.1 hblk).1;have hat':o.blk=some g∨w.heap.size<=g:=by
   rw[hv']at hat;rcases hat with h|h|h
   ·exact .inl h.symm
   ·simp[Value.ownBlock]at h
   ·obtain⟨g',h1,h2⟩:=h;simp[Value.ownBlock]at h1;exact .inr (by omega)
  have hxl:xs.length<=cur.size:=by rw[<-htake];simp;omega
  have hget: ∀(i:Nat) x,i<cs.length->cur[i]? =some x->xs[i]? =some x:=by
   intro i x hi hx;rw[<-htake,List.getElem?_take,if_pos (by rw[<-hown.1];omega)];simpa using hx
  obtain⟨u1,u2⟩:=H.update (w':=w') (o':= { blk:=some g,ver:=o.ver+1,size:=cur.size,ty:=e }) (a':= .mem (o.ver+1) e cs) hk hg (by simp) (by simp)
   (by rintro b' ⟨⟩;exact⟨hat'.imp id (λh=>by omega),hlt⟩) (λb r e hr=>absurd hr (H.noloop hk hlp b r e))
   (λex=>⟨rfl,rfl,g,cur,rfl,.mk hblk,rfl,by omega,λi x hi hx=>h1 x (List.mem_of_getElem? (hget i x hi hx)),λi c x hc hx=>(hv i c x hc (hget i x ((List.getElem?_eq_some_iff.1 hc).1) hx)).ext ex⟩)
  refine⟨_,u1,u2,.osl { blk:=some g,ver:=o.ver+1,size:=cur.size,ty:=e } (by simp[hkl]) ⟨_,_,_,hv'⟩ (Nat.le_refl _) (λ_=> .inr ⟨g,cap,rfl,hv',hnc,hcm,by simp[hcs]⟩)⟩
theorem qdp{o:Oper}{c:Call}{x y:Operand}{ty e:TypeId}{i:TypeInfo}{z:Value}(ho:o.op= .call c)(hb:c.callee= .builtin .append)(ha:c.args.toList= [x,y])(ht:c.argTypes.toList= [ty,ty])
  (hty:P.underlying ty=some (.slice e)) (hi:P.info? e=some i) (hz:i.zero=some z) (hzs:z.cells.size=i.size) (hpos:0<i.size) {h:wh} (H:HR w σ h) {k:Nat} {ob:OB} (hk:σ[k]? =some ob) (hlp: ∀s ts L,h[k]? ≠some (.lp s ts L))
  {v:Value} {m:Nat} {xs:List Value} (hx:ρ x=v) (hown:w.ownsRow 0 e i.size v m xs) (hvb:v.ownBlock=ob.blk∨v.ownBlock=none) {ds:wi} (hdl:ds.length=xs.length) (hd1: ∀u∈xs,u.oneCell'=true) (hdv: ∀(i:Nat) c u,ds[i]? =some c->xs[i]? =some u->VR w σ c u)
  {a:AV} (hy:VR w σ a (ρ y)) {n:Nat} {cs:wi} (hc:ql h a=some (n,cs)) (hcl:cs.length=n*i.size) (hb1:((m+n:Nat):Int)*i.bytes<=140737488355328) (hb2:((m+n:Nat):Int)<=140737488355328)
  {t:wi} {d:Option Nat} {nx:Nx} {ao:AObj} (hao:(v= .slice none 0 0∧n=0∧ao= .emp (ob.ver+1))∨(¬(v= .slice none 0 0∧n=0)∧ao= .mem (ob.ver+1) e (ds++cs)))
  (hn:nx (qY t d (.osl k (ob.ver+1) i.size 0 (m+n))) (qt k h ao)):U9 P w σ ρ o t d nx:=by
 have e1:c.args= #[x,y]:=by rw[<-ha]
 have e2:c.argTypes= #[ty,ty]:=by rw[<-ht]
 have hrun: ∀r w',(Builtin.append_ #[ty,ty] o.type #[v,ρ y]).run P w= .ok r w'->(execOp ρ o).run P w= .ok (.value r) w':=by
  intro r w' hr;simp only[execOp,ho,resolve,hb,invoke,Go.builtin,e1,e2,Sem.run_bind,Sem.run_pure,Result.andThen_ok,List.map_toArray,List.map_cons,List.map_nil,hx,hr]
 rcases qhg H hy hc hcl with⟨hyv,rfl⟩|⟨ad,cap,news,hyv,hnl,hnc,hn1,hnv⟩
 ·have hcs:cs= []:=by
   apply List.eq_nil_of_length_eq_zero;rw[hcl];exact Nat.zero_mul _
  subst hcs;have hr:=run_append_owned_none (P:=P) w 0 ty o.type e i i.size hty hi v m xs hown;obtain⟨σ',u1,u2,u3⟩:=H.appended hk hlp (w':=w) (cs:=ds) (a:=ao) hown ⟨rfl,rfl,rfl,Nat.le_refl _,λ_ _ _=>rfl⟩ (hvb.imp id .inl) hdl hd1 hdv (by
   rcases hao with⟨h1,_,h2⟩|⟨h1,h2⟩
   ·exact .inl ⟨h1,h2⟩
   ·exact .inr ⟨λh=>h1 ⟨h,rfl⟩,by simpa using h2⟩)
  exact⟨.value v,v,w,σ',_,_,hrun _ _ (by rw[hyv];exact hr),.inl rfl,u1,by simpa using u3,u2,hn⟩
 ·have hnat1:(m+n)*i.bytes<=140737488355328:=by rw[<-Int.natCast_mul]at hb1;omega
  obtain⟨v',w',hr,ho',hg,hnil,hat⟩:=run_append_own_at (P:=P) w 0 ty o.type e i z i.size i.bytes hty hi hz rfl rfl hzs hpos v m xs hown ad n cap news hnl hnc hn1 (by unfold maxLen;omega) hnat1 (Nat.zero_le _);have hg':w.grownBy w' ob.blk:=by
   rcases hvb with h|h
   ·rw[h]at hg;exact hg
   ·rw[h]at hg;exact Uy hg _
  have hat':v'.ownBlock=ob.blk∨v'.ownBlock=none∨ ∃g,v'.ownBlock=some g∧w.heap.size<=g:=by
   rcases hat with h'|h'
   ·rcases hvb with h|h
    ·exact .inl (h'.trans h)
    ·exact .inr (.inl (h'.trans h))
   ·exact .inr (.inr ⟨_,h',Nat.le_refl _⟩)
  obtain⟨σ',u1,u2,u3⟩:=H.appended hk hlp (cs:=ds++cs) (a:=ao) ho' hg' hat' (by simp[hdl,hcl,hnl]) (by
    intro u hu;rcases List.mem_append.1 hu with h|h
    ·exact hd1 u h
    ·exact hn1 u h) (by
    intro j c' u hj hu;rw[List.getElem?_append]at hj hu;split at hj
    ·rename_i hlt;rw[if_pos (by omega)]at hu;exact hdv j c' u hj hu
    ·rename_i hlt;rw[if_neg (by omega),<-hdl]at hu
     exact hnv _ c' u hj hu) (by
    rcases hao with⟨h1,h2,h3⟩|⟨h1,h2⟩
    ·exact .inl ⟨hnil.2 ⟨h1,h2⟩,h3⟩
    ·exact .inr ⟨λh=>h1 (hnil.1 h),h2⟩)
  exact⟨.value v',v',w',σ',_,_,hrun _ _ (by rw[hyv];exact hr),.inl rfl,u1,u3,u2,hn⟩
theorem qxW{o:Oper}{c:Call}{j:Nat}{x y:Operand}{ty e:TypeId}{i:TypeInfo}(ho:o.op= .call c)(hb:c.callee= .builtin .append)(ha:c.args.toList= [x,y])(ht:c.argTypes.toList= [ty,ty])
  (hty:P.underlying ty=some (.slice e)) (hi:okZ P e=some i) (H:HR w σ h) {vs:wi} (hv:VRs w σ vs [ρ x,ρ y]) (he:effE b h (.app j i.size e i.bytes) vs t d nx):U9 P w σ ρ o t d nx:=by
 have hltm:=qAv hi;obtain⟨z,hi,hz,hzs,hpos⟩:=qpM hi
 match vs,hv,he with
 | [.nl,s],hv,⟨⟨hs,hsite,hcl,hb1,hb2⟩,hn⟩=>
  obtain⟨p,q,hpq,hx,hy⟩:=hv.two;cases hpq;obtain⟨ob,hk,hver⟩:=jB H hsite;rw[hver]at hn;obtain⟨⟨n,cs⟩,hc⟩:=Option.isSome_iff_exists.1 hs;rw[hc]at hn hcl hb1 hb2;simp only[Option.getD_some]at hn hcl hb1 hb2;refine qdp ho hb ha ht hty hi hz hzs hpos H hk (qe3 hsite) (qee hx) (World.ownsRow_nil w 0 e i.size) (.inr rfl) (ds:= []) rfl (by simp) (by simp) hy hc hcl (by simpa using hb1) (by simpa using hb2)
   (ao:=if n=0 then .emp (ob.ver+1) else .mem (ob.ver+1) e cs) (by
    by_cases h0:n=0
    ·exact .inl ⟨rfl,h0,by simp[h0]⟩
    ·exact .inr ⟨by simp[h0],by simp[h0]⟩) ?_
  simpa using hn
 | [.osl k ver sz off m,s],hv,⟨⟨hs,hlive,hty',hle,hap,hsz,hoff,hcl,hb1,hb2⟩,hn⟩=>
  obtain⟨p,q,hpq,hx,hy⟩:=hv.two;cases hpq;obtain⟨⟨n,cs⟩,hc⟩:=Option.isSome_iff_exists.1 hs;rw[hc]at hn hcl hb1 hb2;simp only[Option.getD_some]at hn hcl hb1 hb2;subst hsz;subst hoff;rcases jZ H hx hlive with⟨ob,g1,g2,g3,g4,_,rfl,hxv⟩|⟨ds,ob,bl,cap,arr,g1,hxv,g2,g3,g4,g5,g6,g7,g8,g9,g10,g12,g11⟩
  ·subst g2;refine qdp ho hb ha ht hty hi hz hzs hpos H g1 (by simp[g4]) hxv (World.ownsRow_nil w 0 e i.size) (.inr rfl) (ds:= []) rfl (by simp) (by simp) hy hc hcl (by simpa using hb1) (by simpa using hb2)
    (ao:=if n=0 then .emp (ob.ver+1) else .mem (ob.ver+1) e cs) (by
     by_cases h0:n=0
     ·exact .inl ⟨rfl,h0,by simp[h0]⟩
     ·exact .inr ⟨by simp[h0],by simp[h0]⟩) ?_
   simpa[qgt,qu,g4] using hn
  ·subst g6;have hcell:cellsOf h k ob.ver=some ds:=by simp[cellsOf,qu,g1]
   have htye:ob.ty=e:=by
    simp[qi0,qu,g1]at hty';exact hty'
   rw[hcell,Option.getD_some]at hle;refine qdp ho hb ha ht hty hi hz hzs hpos H g5 (by simp[g1]) hxv (xs:=arr.toList.take (m*i.size)) ⟨by simp;omega,.inr ⟨bl,cap,arr,rfl,Nat.zero_le _,by rw[<-htye];exact g8.plain (by rw[htye];exact hltm),g2,g3,by omega,rfl⟩⟩ (.inl (by rw[g7];rfl)) (ds:=ds.take (m*i.size)) (by simp;omega)
    (by
     intro u hu;obtain⟨q,hq⟩:=List.getElem?_of_mem hu;rw[List.getElem?_take]at hq;split at hq
     ·exact g12 q u (by omega) (by simpa using hq)
     ·cases hq)
    (by
     intro q c' u hq hu;rw[List.getElem?_take]at hq hu;split at hq
     ·rename_i hlt;rw[if_pos hlt]at hu;exact g11 q c' u hq (by simpa using hu)
     ·cases hq) hy hc hcl hb1 hb2 (ao:= .mem (ob.ver+1) e (ds.take (m*i.size)++cs)) (.inr ⟨by simp,rfl⟩) ?_
   simpa[qgt,qu,g1] using hn
theorem qxZ{o:Oper}{y:Operand}{t' e:TypeId}{g n:Nat}{i:TypeInfo}(ho:o.op= .indexAddr t' (.global g) y)(ht:P.underlying t'=some (.array n e))(hi:P.info? e=some i)(hg: ∀g,ρ (.global g)= .pointer (some ⟨g,0,none⟩))(H:HR w σ h){vs:wi}
  (hv:VRs w σ vs [ρ y]) (he:effE b h (.gix g n i.size) vs t d nx):U9 P w σ ρ o t d nx:=by
 match vs,hv,he with
 | [.int k m],hv,⟨cs,⟨q,bs,G,hk,hb,hG⟩,⟨h0,h1⟩,h2,hn⟩=>
  obtain⟨p,hp,ha⟩:=hv.one;cases hp;have eb:=zV ha;have hql:q<σ.length:=by rw[H.len];exact (List.getElem?_eq_some_iff.1 hk).1
  obtain⟨_,_,h3,h4⟩:=H.obj q _ σ[q] hk (List.getElem?_eq_getElem hql);obtain⟨hno,_⟩:=h3 g hb;obtain⟨arr,T,fz,g1,g2,g3⟩:=hG w (h4 w (λ_ _=>rfl));have hm:m.toNat<n:=by omega
  have hle:m.toNat*i.size+i.size<=cs.length:=by
   rw[h2,<-Nat.succ_mul];exact Nat.mul_le_mul_right _ hm
  refine⟨.value (.pointer (some ⟨g,0+m.toNat*i.size,none⟩)),_,w,σ,_,h,?_,.inl rfl,H,?_,Ext.refl w σ,hn⟩
  ·simp[execOp,ho,hg,eb,Instr.indexAt,asIntOf,zC ht,jQ hi,h0,h1,Instr.sureAddr,ku]
  ·have ha: ∀j,j<i.size->m.toNat*i.size+j<arr.size:=λj hj=>by omega
   refine .imm (.ip g _ (λj=>arr[m.toNat*i.size+j]?.getD default) hno (Array.getElem?_eq_some_iff.1 g1).1 (λj hj=> ?_) (λj hj=> ?_) (λj c hj=> ?_))
   ·simp at hj
    have:=ha j (by omega)
    simp[World.cell?,g1,this]
   ·simp at hj;have h5:=ha j (by omega)
    have:=(g3 (m.toNat*i.size+j) cs[m.toNat*i.size+j] arr[m.toNat*i.size+j] (by simp) (by simp)).1
    simpa[h5] using this
   ·rw[List.getElem?_take]at hj;split at hj
    ·rename_i hj2;rw[List.getElem?_drop]at hj;have h5:=ha j (by omega)
     have:=(g3 (m.toNat*i.size+j) c arr[m.toNat*i.size+j] hj (by simp)).2 w (AF.own σ)
     simpa[h5] using this
    ·cases hj
theorem qx0{o:Oper}{x:Operand}{s d' e:TypeId}(ho:o.op= .convert s d' x)(hs:P.underlying s=some .string)(hd:P.underlying d'=some (.slice e))(hu:P.underlying e=some (.int .u8))(H:HR w σ h){vs:wi}
  (hv:VRs w σ vs [ρ x]) (he:effE b h .s2b vs t d nx):U9 P w σ ρ o t d nx:=by
 match vs,hv,he with
 | [.str l],hv,⟨h1,hn⟩=>
  obtain⟨p,hp,ha⟩:=hv.one;cases hp;have ea:=kg ha;have hr:=run_bytes_of_string (P:=P) w s d' e ⟨l.toArray⟩ hs hd hu;have hsz:(⟨l.toArray⟩:ByteArray).size=l.length:=by simp[ByteArray.size]
  rw[hsz]at hr;obtain⟨cap,hcap⟩: ∃c,c=grownCap w l.length 0 e:=⟨_,rfl⟩
  have hge:=grownCap_ge w l.length 0 e;have hle:=grownCap_le_maxLen w l.length 0 e (by unfold maxLen;omega);rw[<-hcap]at hr hge hle;obtain⟨w',hw'⟩: ∃w',w'=w.drew.alloc (.cells (bytesRow ⟨l.toArray⟩ cap) e ((bytesRow ⟨l.toArray⟩ cap).size,(bytesRow ⟨l.toArray⟩ cap).size+1)):=⟨_,rfl⟩
  rw[<-hw']at hr;have hg:w.grownBy w' none:=by
   have h:=World.grownBy_alloc w.drew (.cells (bytesRow ⟨l.toArray⟩ cap) e ((bytesRow ⟨l.toArray⟩ cap).size,(bytesRow ⟨l.toArray⟩ cap).size+1)) none;rw[<-hw']at h;exact⟨h.os,h.tape,h.output,h.size,h.block⟩
  have hblk:w'.heap[w.heap.size]? =some (.cells (bytesRow ⟨l.toArray⟩ cap) e ((bytesRow ⟨l.toArray⟩ cap).size,(bytesRow ⟨l.toArray⟩ cap).size+1)):=by
   rw[hw'];show (w.heap.push _)[w.heap.size]? =_;simp
  have hlt:w.heap.size<w'.heap.size:=(Array.getElem?_eq_some_iff.1 hblk).1;obtain⟨H',E'⟩:=H.grow hg;have hno: ¬own σ w.heap.size:=λ⟨k,ob,h2,h3⟩=>by have:=H.lt k ob _ h2 h3;omega
  have hcell: ∀(i:Nat),i<l.length->w'.cell? ⟨w.heap.size,i,none⟩=some (.int .u8 ((l.getD i 0).toNat:Int)):=by
   intro i hi;simp only[World.cell?,hblk];simp[bytesRow,Array.getElem?_append,hi,List.getD_eq_getElem?_getD]
  refine⟨.value (.slice (some ⟨w.heap.size,0,none⟩) l.length cap),_,w',σ,_,h,?_,.inl rfl,H',?_,E',hn⟩
  ·simp only[execOp,ho,ea,Sem.run_bind,hr,Result.andThen_ok,Sem.run_pure]
  ·refine .imm (.sl 1 w.heap.size 0 cap (λi _=> .int .u8 ((l.getD i 0).toNat:Int)) hge hle (λ_=>hno) hlt (λ_ _=>rfl) (λi j hi hj=> ?_) (λ_ _ _ _=>rfl) (λi j c hi hc=> ?_))
   ·have:j=0:=by omega
    subst this;rw[Nat.zero_add,Nat.mul_one,Nat.add_zero];exact hcell i hi
   ·match j,hc with
    |0,hc=>simp at hc;subst hc;exact .int
theorem qte{o:Oper}{x:Operand}{j:Nat}{s d' e:TypeId}(ho:o.op= .convert s d' x)(hs:P.underlying s=some .string)(hd:P.underlying d'=some (.slice e))(hu:P.underlying e=some (.int .u8))(H:HR w σ h){vs:wi}
  (hv:VRs w σ vs [ρ x]) (he:effE b h (.s2bo j e) vs t d nx):U9 P w σ ρ o t d nx:=by
 match vs,hv,he with
 | [.str l],hv,⟨⟨hst,h1⟩,hn⟩=>
  obtain⟨p,hp,ha⟩:=hv.one;cases hp;have ea:=kg ha;obtain⟨ob,hk,hver⟩:=jB H hst;rw[hver]at hn;have hr:=run_bytes_of_string (P:=P) w s d' e ⟨l.toArray⟩ hs hd hu;have hsz:(⟨l.toArray⟩:ByteArray).size=l.length:=by simp[ByteArray.size]
  rw[hsz]at hr;obtain⟨cap,hcap⟩: ∃c,c=grownCap w l.length 0 e:=⟨_,rfl⟩
  have hge:=grownCap_ge w l.length 0 e;have hle:=grownCap_le_maxLen w l.length 0 e (by unfold maxLen;omega);rw[<-hcap]at hr hge hle;obtain⟨arr,harr⟩: ∃a,a=bytesRow ⟨l.toArray⟩ cap:=⟨_,rfl⟩
  rw[<-harr]at hr;have hasz:arr.size=cap:=by rw[harr];simp[bytesRow,hsz];omega
  have hget: ∀(i:Nat) x,i<l.length->arr[i]? =some x->x= .int .u8 ((l.getD i 0).toNat:Int):=by
   intro i x hi hx;rw[harr]at hx;simp[bytesRow,Array.getElem?_append,hi,List.getD_eq_getElem?_getD]at hx ⊢;exact hx.symm
  obtain⟨w',hw'⟩: ∃w',w'=w.drew.alloc (.cells arr e (arr.size,arr.size+1)):=⟨_,rfl⟩
  rw[<-hw']at hr;have hg:w.grownBy w' none:=by
   have h:=World.grownBy_alloc w.drew (.cells arr e (arr.size,arr.size+1)) none;rw[<-hw']at h;exact⟨h.os,h.tape,h.output,h.size,h.block⟩
  have hblk:w'.heap[w.heap.size]? =some (.cells arr e (arr.size,arr.size+1)):=by
   rw[hw'];show (w.heap.push _)[w.heap.size]? =_;simp
  have hB:Blk w' w.heap.size arr (e+qbI):=⟨e,_,.inr ⟨rfl,rfl⟩,hblk⟩
  obtain⟨σ',g1,g2,g3⟩:=H.freshB hk hg (Nat.le_refl _) hB (cs:=zQ l) (by simp[zQ];omega) (λi x hi hx=>by
    rw[hget i x (by simpa[zQ] using hi) hx];rfl) (λi c x hc hx=>by
    have hi:i<l.length:=by have:=(List.getElem?_eq_some_iff.1 hc).1;simpa[zQ] using this
    rw[hget i x hi hx];simp[zQ,hi]at hc;subst hc;simp only[List.getD_eq_getElem?_getD,List.getElem?_eq_getElem hi,Option.getD_some]
    exact .imm .int)
  refine⟨.value (.slice (some ⟨w.heap.size,0,none⟩) l.length cap),_,w',σ',_,_,?_,.inl rfl,g1,?_,g2,hn⟩
  ·simp only[execOp,ho,ea,Sem.run_bind,hr,Result.andThen_ok,Sem.run_pure]
  ·refine .osl _ g3 ⟨_,_,_,rfl⟩ (Nat.le_refl _) (λ_=> .inr ⟨_,cap,rfl,rfl,hge,hle,?_⟩);simp only[Nat.zero_add,Nat.mul_one];exact hasz.symm
theorem qoB{o:Oper}{c:Call}{x y:Operand}{T U e:TypeId}{i:TypeInfo}(ho:o.op= .call c)(hb:c.callee= .builtin .copy)(ha:c.args.toList= [x,y])(ht:c.argTypes.toList= [T,U])
  (hty:P.underlying T=some (.slice e)) (hi:P.info? e=some i) (H:HR w σ h) {k ver sz' off m:Nat} {a:AV} (hv:VRs w σ [.osl k ver sz' off m,a] [ρ x,ρ y])
  (hlv:qH h k ver=true) (hl:(cellsOf h k ver).isSome=true) (hsz:sz'=i.size) (hle:off+m*i.size<=((cellsOf h k ver).getD []).length) {n:Nat} {cs:wi} (hc:ql h a=some (n,cs)) (hcl:cs.length=n*i.size)
  (hnx:nx (qY t d (.int .i64 ((min n m:Nat):Int))) (qt k h (.mem ver (qnO (qu k h)) (((cellsOf h k ver).getD []).take off++cs.take (min n m*i.size)++((cellsOf h k ver).getD []).drop (off+min n m*i.size))))):U9 P w σ ρ o t d nx:=by
 have e1:c.args= #[x,y]:=by rw[<-ha]
 have e2:c.argTypes= #[T,U]:=by rw[<-ht]
 have ha':VR w σ (.osl k ver sz' off m) (ρ x):=hv.2 0 _ _ rfl rfl;have hy:VR w σ a (ρ y):=hv.2 1 _ _ rfl rfl;subst hsz;rcases jZ H ha' hlv with⟨ob,g1,g2,g3,g4,_,rfl,hxv⟩|⟨ds,ob,bl,cap,arr,g1,hxv,g2,g3,g4,g5,g6,g7,g8,g9,g10,g12,g11⟩
 ·simp[cellsOf,qu,g4]at hl
 subst g6;have hcell:cellsOf h k ob.ver=some ds:=by simp[cellsOf,qu,g1]
 have hty':qnO (qu k h)=ob.ty:=by simp[qu,g1,qnO]
 rw[hcell,Option.getD_some]at hle hnx;rw[hty']at hnx;obtain⟨q,hq⟩: ∃q,q=min n m:=⟨_,rfl⟩
 rw[<-hq]at hnx;rcases qhg H hy hc hcl with⟨hyv,rfl⟩|⟨ad,cap2,news,hyv,hnl,hnc,hn1,hnv⟩
 ·have hq0:q=0:=by omega
  subst hq0;have hsame:qt k h (.mem ob.ver ob.ty (ds.take off++cs.take (0*i.size)++ds.drop (off+0*i.size)))=h:=by
   obtain⟨hk,he⟩:=List.getElem?_eq_some_iff.1 g1;simp only[Nat.zero_mul,Nat.add_zero,List.take_zero,List.append_nil,List.take_append_drop,qt];rw[<-he];exact List.set_getElem_self hk
  rw[hsame]at hnx;refine⟨.value (goInt 0),_,w,σ,.int .i64 0,_,?_,.inl rfl,H,.imm .int,Ext.refl _ _,hnx⟩;simp only[execOp,ho,resolve,hb,invoke,Go.builtin,e1,e2];simp[Builtin.copy_,hxv,hyv,zC hty,Builtin.lenOf,Builtin.firstCells,Go.sizeOf,typeInfo,hi,storeCells]
 ·have hql:q<=n∧q<=m:=by omega
  have hqs:q*i.size<=n*i.size:=Nat.mul_le_mul_right _ hql.1;have hqm:q*i.size<=m*i.size:=Nat.mul_le_mul_right _ hql.2;obtain⟨nw,hnw⟩: ∃nw,nw=news.take (q*i.size):=⟨_,rfl⟩
  have hnwl:nw.length=q*i.size:=by rw[hnw,List.length_take,hnl];omega
  have hnwc: ∀(j:Nat) u,nw[j]? =some u->w.cell? (ad.add j)=some u:=λj u hj=>by
   rw[hnw,List.getElem?_take]at hj;split at hj
   ·exact hnc j u hj
   ·cases hj
  have hnw1: ∀u∈nw,u.oneCell'=true:=λu hu=>hn1 u (by rw[hnw]at hu;exact List.mem_of_mem_take hu)
  have hld:=run_loadCells_list (P:=P) w ad nw hnwc;have hst:=b6 (P:=P) (o:=off) (vs:=nw) g8 (by rw[hnwl];omega) hnw1;rw[hnwl]at hld;simp only[Nat.add_zero,hnwl]at hst;generalize hnew:(arr.toList.take off++nw++arr.toList.drop (off+q*i.size)).toArray=new at hst;have hnewl:new.toList=arr.toList.take off++nw++arr.toList.drop (off+q*i.size):=by rw[<-hnew]
  have hsz:new.size=arr.size:=by rw[<-Array.length_toList,hnewl];simp[hnwl];omega
  obtain⟨s1,s2⟩:=qbP (new:=new) g8 hsz;have hrow:w.grownBy (w.setRow bl new) ob.blk:=by rw[g7];exact s2
  have hcq:(cs.take (q*i.size)).length=q*i.size:=by rw[List.length_take,hcl];omega
  obtain⟨u1,u2⟩:=H.update (w':=w.setRow bl new) (o':=ob) (a':= .mem ob.ver ob.ty (ds.take off++cs.take (q*i.size)++ds.drop (off+q*i.size))) g5 hrow (Nat.le_refl _) (λ_=>rfl) (by
    intro b' e;rw[g7]at e;cases e;exact⟨.inl g7,s1.lt⟩) (λb r e hr=>by rw[g7]at e;cases e;exact absurd hr (g8.noloop r))
   (λe=>⟨rfl,rfl,bl,new,g7,s1,by omega,by simp[hcq];omega,λn' z hny hz=>by
     rw[<-Array.getElem?_toList,hnewl,zg hnwl (by simp;omega)]at hz;split at hz
     ·exact g12 n' z (by omega) (by simpa using hz)
     ·split at hz
      ·exact hnw1 z (List.mem_of_getElem? hz)
      ·exact g12 n' z (by simp[hcq]at hny;omega) (by simpa using hz),λn' c' z hc' hz=>by
     rw[zg hcq (by omega)]at hc';rw[<-Array.getElem?_toList,hnewl,zg hnwl (by simp;omega)]at hz;split at hc'
     ·rename_i hlt;rw[if_pos hlt]at hz;exact (g11 n' c' z hc' (by simpa using hz)).ext e
     ·rename_i hlt;rw[if_neg hlt]at hz;split at hc'
      ·rename_i hlt';rw[if_pos hlt']at hz;rw[List.getElem?_take]at hc';rw[hnw,List.getElem?_take]at hz;split at hc'
       ·rename_i h3;rw[if_pos h3]at hz;exact (hnv _ c' z hc' hz).ext e
       ·cases hc'
      ·rename_i hlt';rw[if_neg hlt']at hz
       exact (g11 n' c' z hc' (by simpa using hz)).ext e⟩)
  refine⟨.value (goInt q),_,_,_,.int .i64 (q:Int),_,?_,.inl rfl,u1,.imm .int,u2,hnx⟩;simp only[execOp,ho,resolve,hb,invoke,Go.builtin,e1,e2];have hm:Nat.min n m=q:=hq.symm;simp[Builtin.copy_,hxv,hyv,zC hty,Builtin.lenOf,Builtin.firstCells,Go.sizeOf,typeInfo,hi,hm,hld,hst]
theorem qxY{o:Oper}{c:Call}{x y:Operand}{T U e:TypeId}{i:TypeInfo}(ho:o.op= .call c)(hb:c.callee= .builtin .copy)(ha:c.args.toList= [x,y])(ht:c.argTypes.toList= [T,U])
  (hty:P.underlying T=some (.slice e)) (hi:P.info? e=some i) (H:HR w σ h) {vs:wi} (hv:VRs w σ vs [ρ x,ρ y]) (he:effE b h (.cpy i.size) vs t d nx):U9 P w σ ρ o t d nx:=by
 match vs,hv,he with
 | [.osl k ver sz off m,a],hv,⟨⟨q1,q2,q3,q4,q5,q6⟩,hnx⟩=>
  obtain⟨⟨n,cs⟩,hs⟩:=Option.isSome_iff_exists.1 q5;rw[hs]at q6 hnx;exact qoB ho hb ha ht hty hi H hv q1 q2 q3 q4 hs q6 hnx
theorem qpt{e:TypeId}(h:okB P e=true): ∃i,P.info? e=some i∧i.zero=some (.int .u8 0)∧i.size=1∧i.bytes=1:=by
 unfold okB at h;split at h
 ·rename_i i hi;split at h
  ·rename_i hz
   have:=of_decide_eq_true h
   exact⟨i,hi,hz,this.1,this.2.1⟩
  ·cases h
 ·cases h
open Go.Lib in
theorem qe9(s:List UInt8)(i:Nat):(strCells ⟨s.toArray⟩)[i]? =(s[i]?).map λb=>Value.int .u8 b.toNat:=by
 simp[strCells]
open Go.Lib in
theorem qjW{s:List UInt8}(i:Nat)(c:AV)(u:Value)(hc:(zQ s)[i]? =some c)(hu:(strCells ⟨s.toArray⟩)[i]? =some u):VR w σ c u:=by
 rw[qe9]at hu;simp only[zQ,List.getElem?_map]at hc;cases h:s[i]? with
 |none=>simp[h]at hc
 |some b=>simp[h]at hc hu;subst hc hu;exact qec
open Go.Lib in
theorem qch{o:Oper}{c:Call}{x y:Operand}{ty u e:TypeId}(ho:o.op= .call c)(hb:c.callee= .builtin .append)(ha:c.args.toList= [x,y])(ht:c.argTypes.toList= [ty,u])
  (hty:P.underlying ty=some (.slice e)) (hu:P.underlying u=some .string) (hB:okB P e=true) {h:wh} (H:HR w σ h) {k:Nat} {ob:OB} (hk:σ[k]? =some ob) (hlp: ∀s ts L,h[k]? ≠some (.lp s ts L))
  {v:Value} {m:Nat} {xs:List Value} (hx:ρ x=v) (hown:w.ownsRow 0 e 1 v m xs) (hvb:v.ownBlock=ob.blk∨v.ownBlock=none) {ds:wi} (hdl:ds.length=xs.length) (hd1: ∀u∈xs,u.oneCell'=true) (hdv: ∀(i:Nat) c u,ds[i]? =some c->xs[i]? =some u->VR w σ c u)
  {s:List UInt8} (hy:ρ y= .string ⟨s.toArray⟩) (hb2:((m+s.length:Nat):Int)<=140737488355328)
  {t:wi} {d:Option Nat} {nx:Nx} {ao:AObj} (hao:(v= .slice none 0 0∧s.length=0∧ao= .emp (ob.ver+1))∨(¬(v= .slice none 0 0∧s.length=0)∧ao= .mem (ob.ver+1) e (ds++zQ s)))
  (hn:nx (qY t d (.osl k (ob.ver+1) 1 0 (m+s.length))) (qt k h ao)):U9 P w σ ρ o t d nx:=by
 obtain⟨i,hi,hz,hs1,hb1⟩:=qpt hB;have e1:c.args= #[x,y]:=by rw[<-ha]
 have e2:c.argTypes= #[ty,u]:=by rw[<-ht]
 have hrun: ∀r w',(Builtin.append_ #[ty,u] o.type #[v,.string ⟨s.toArray⟩]).run P w= .ok r w'->(execOp ρ o).run P w= .ok (.value r) w':=by
  intro r w' hr;simp only[execOp,ho,resolve,hb,invoke,Go.builtin,e1,e2,Sem.run_bind,Sem.run_pure,Result.andThen_ok,List.map_toArray,List.map_cons,List.map_nil,hx,hy,hr]
 have hsz:(ByteArray.mk s.toArray).size=s.length:=qcj s;have hmain: ∃v' w',(Builtin.append_ #[ty,u] o.type #[v,.string ⟨s.toArray⟩]).run P w= .ok v' w'∧w'.ownsRow 0 e 1 v' (m+s.length) (xs++strCells ⟨s.toArray⟩)∧w.grownBy w' v.ownBlock∧(v'= .slice none 0 0↔v= .slice none 0 0∧s.length=0)∧
   (v'.ownBlock=v.ownBlock∨ ∃g,v'.ownBlock=some g∧w.heap.size<=g):=by
  rcases hown.2 with⟨rfl,rfl⟩|⟨g,cap,cur,hv,_,hblk,hnc,hcm,hcs,htake⟩
  ·have hxs:xs= []:=List.eq_nil_of_length_eq_zero (by have:=hown.1;simpa using this);subst hxs;obtain⟨v',w',hr,h2,h3,h4⟩:=run_append_own_string (P:=P) w w.heap.size ty u o.type e i hty hu hi hz hs1 hb1 (.slice none 0 0) 0 [] (World.ownsRow_nil w _ e 1) ⟨s.toArray⟩ (by rw[hsz];unfold maxLen;omega) (by rw[hsz];omega) (Nat.le_refl _);rw[hsz]at h2 h4;refine⟨v',w',hr,⟨h2.1,h2.2.imp id (λ⟨g,cap,cur,a,b,c⟩=>⟨g,cap,cur,a,Nat.zero_le _,c⟩)⟩,h3,h4,?_⟩;rcases h2.2 with⟨rfl,_⟩|⟨g,cap,cur,rfl,hbg,_⟩
   ·exact .inl rfl
   ·exact .inr ⟨g,rfl,hbg⟩
  ·subst hv
   by_cases hroom:m+s.length<=cap
   ·have hr:=run_append_room_string (P:=P) w ty u o.type e i hty hu hi hs1 g m cap cur hblk ⟨s.toArray⟩ (by rw[hsz];omega) (by rw[hsz];omega);rw[hsz]at hr;have hnl:((cur.toList.take m++strCells ⟨s.toArray⟩++cur.toList.drop (m+s.length)).toArray).size=cap*1:=by
     simp[strCells_length,hsz];omega
    have r1:=setRow_heap w g cur (cur.toList.take m++strCells ⟨s.toArray⟩++cur.toList.drop (m+s.length)).toArray e (0,0) hblk;have r2:=qbQ (w:=w) (g:=g) (new:=(cur.toList.take m++strCells ⟨s.toArray⟩++cur.toList.drop (m+s.length)).toArray);refine⟨_,_,hr,⟨by rw[List.length_append,hown.1,strCells_length,hsz];omega,.inr ⟨g,cap,_,rfl,Nat.zero_le _,r1,hroom,hcm,hnl,?_⟩⟩,r2,by simp,.inl rfl⟩;have hm1:cur.toList.take m=xs:=by rw[<-htake];simp
    rw[hm1]
    have:(m+s.length)*1=(xs++strCells ⟨s.toArray⟩).length:=by rw[List.length_append,hown.1,strCells_length,hsz];omega
    rw[this];exact List.take_left
   ·have holds: ∀j u,xs[j]? =some u->w.cell? ((⟨g,0,none⟩:Addr).add j)=some u:=hown.cells (g:=g) rfl;have hcap:Builtin.nextslicecap (m+s.length) cap*i.bytes<=281474976710656:=by
     rw[hb1]
     have:=nextslicecap_le (need:=m+s.length) (old:=cap) (by omega)
     omega
    have hr:=run_append_grow_string (P:=P) w ty u o.type e i _ hty hu hi hz ⟨g,0,none⟩ m cap xs (by rw[hown.1,hs1]) holds ⟨s.toArray⟩ (by rw[hsz];omega) (by rw[hsz];omega) (by rw[hsz];exact hcap);rw[hsz]at hr;have hge:=grownCap_ge w (m+s.length) cap e;have hcm':grownCap w (m+s.length) cap e<=maxLen:=grownCap_le_maxLen w (m+s.length) cap e (by unfold maxLen;omega);refine⟨_,_,hr,⟨by rw[List.length_append,hown.1,strCells_length,hsz];omega,.inr ⟨w.heap.size,_,_,rfl,Nat.zero_le _,heap_alloc_new w.drew _,hge,hcm',?_,?_⟩⟩,⟨rfl,rfl,rfl,by simp,λk hk _=>(World.grownBy_alloc w.drew _ none).block k hk (by simp)⟩,by simp,.inr ⟨_,rfl,Nat.le_refl _⟩⟩
    ·simp only[Array.size_append,List.size_toArray,size_zeroCells,strCells_length,hsz,hown.1];simp[Value.cells];omega
    ·simp only[Array.toList_append,List.append_assoc];rw[<-List.append_assoc]
     have:(m+s.length)*1=(xs++strCells ⟨s.toArray⟩).length:=by rw[List.length_append,hown.1,strCells_length,hsz];omega
     rw[this];exact List.take_left
 obtain⟨v',w',hr,ho',hg,hnil,hat⟩:=hmain;have hg':w.grownBy w' ob.blk:=by
  rcases hvb with h|h
  ·rw[h]at hg;exact hg
  ·rw[h]at hg;exact Uy hg _
 have hat':v'.ownBlock=ob.blk∨v'.ownBlock=none∨ ∃g,v'.ownBlock=some g∧w.heap.size<=g:=by
  rcases hat with h'|h'
  ·rcases hvb with h|h
   ·exact .inl (h'.trans h)
   ·exact .inr (.inl (h'.trans h))
  ·exact .inr (.inr h')
 obtain⟨σ',u1,u2,u3⟩:=H.appended hk hlp (cs:=ds++zQ s) (a:=ao) ho' hg' hat' (by simp[hdl,zQ,strCells_length,hsz]) (by
   intro u hu;rcases List.mem_append.1 hu with h|h
   ·exact hd1 u h
   ·exact strCells_oneCell _ u h) (by
   intro j c' u hj hu;rw[List.getElem?_append]at hj hu;split at hj
   ·rename_i hlt;rw[if_pos (by omega)]at hu;exact hdv j c' u hj hu
   ·rename_i hlt;rw[if_neg (by omega),<-hdl]at hu
    exact qjW _ c' u hj hu) (by
   rcases hao with⟨h1,h2,h3⟩|⟨h1,h2⟩
   ·exact .inl ⟨hnil.2 ⟨h1,h2⟩,h3⟩
   ·exact .inr ⟨λh=>h1 (hnil.1 h),h2⟩)
 exact⟨.value v',v',w',σ',_,_,hrun _ _ hr,.inl rfl,u1,u3,u2,hn⟩
theorem qtc{o:Oper}{c:Call}{j:Nat}{x y:Operand}{ty u e:TypeId}(ho:o.op= .call c)(hb:c.callee= .builtin .append)(ha:c.args.toList= [x,y])(ht:c.argTypes.toList= [ty,u])
  (hty:P.underlying ty=some (.slice e)) (hu:P.underlying u=some .string) (hB:okB P e=true) (H:HR w σ h) {vs:wi} (hv:VRs w σ vs [ρ x,ρ y]) (he:effE b h (.apps j e) vs t d nx):U9 P w σ ρ o t d nx:=by
 have hltm:=qAu hB
 match vs,hv,he with
 | [.nl,.str s],hv,⟨⟨hsite,hb2⟩,hn⟩=>
  obtain⟨p,q,hpq,hx,hy⟩:=hv.two;cases hpq;obtain⟨ob,hk,hver⟩:=jB H hsite;rw[hver]at hn;refine qch ho hb ha ht hty hu hB H hk (qe3 hsite) (qee hx) (World.ownsRow_nil w 0 e 1) (.inr rfl) (ds:= []) rfl (by simp) (by simp) (kg hy) (by simpa using hb2)
   (ao:=if s.length=0 then .emp (ob.ver+1) else .mem (ob.ver+1) e (zQ s)) (by
    by_cases h0:s.length=0
    ·exact .inl ⟨rfl,h0,by simp[h0]⟩
    ·exact .inr ⟨by simp[h0],by simp[h0]⟩) ?_
  simpa using hn
 | [.osl k ver sz off m,.str s],hv,⟨⟨hlive,hty',hle,hsz,hoff,hb2⟩,hn⟩=>
  obtain⟨p,q,hpq,hx,hy⟩:=hv.two;cases hpq;subst hsz;subst hoff;rcases jZ H hx hlive with⟨ob,g1,g2,g3,g4,_,rfl,hxv⟩|⟨ds,ob,bl,cap,arr,g1,hxv,g2,g3,g4,g5,g6,g7,g8,g9,g10,g12,g11⟩
  ·subst g2;refine qch ho hb ha ht hty hu hB H g1 (by simp[g4]) hxv (World.ownsRow_nil w 0 e 1) (.inr rfl) (ds:= []) rfl (by simp) (by simp) (kg hy) (by simpa using hb2)
    (ao:=if s.length=0 then .emp (ob.ver+1) else .mem (ob.ver+1) e (zQ s)) (by
     by_cases h0:s.length=0
     ·exact .inl ⟨rfl,h0,by simp[h0]⟩
     ·exact .inr ⟨by simp[h0],by simp[h0]⟩) ?_
   simpa[qgt,qu,g4] using hn
  ·subst g6;have hcell:cellsOf h k ob.ver=some ds:=by simp[cellsOf,qu,g1]
   have htye:ob.ty=e:=by
    simp[qi0,qu,g1]at hty';exact hty'
   rw[hcell,Option.getD_some]at hle;refine qch ho hb ha ht hty hu hB H g5 (by simp[g1]) hxv (xs:=arr.toList.take (m*1)) ⟨by simp;omega,.inr ⟨bl,cap,arr,rfl,Nat.zero_le _,by rw[<-htye];exact g8.plain (by rw[htye];exact hltm),g2,g3,by omega,rfl⟩⟩ (.inl (by rw[g7];rfl)) (ds:=ds.take m) (by simp;omega)
    (by
     intro u hu;obtain⟨q,hq⟩:=List.getElem?_of_mem hu;rw[List.getElem?_take]at hq;split at hq
     ·exact g12 q u (by omega) (by simpa using hq)
     ·cases hq)
    (by
     intro q c' u hq hu;rw[List.getElem?_take]at hq hu;split at hq
     ·rename_i hlt;rw[if_pos (by omega)]at hu;exact g11 q c' u hq (by simpa using hu)
     ·cases hq) (kg hy) hb2 (ao:= .mem (ob.ver+1) e (ds.take m++zQ s)) (.inr ⟨by simp,rfl⟩) ?_
   simpa[qgt,qu,g1] using hn
end
end AF
end
section
namespace AF
open Go
section
variable {P : Program} {js : List Tmp} {imp : List FuncId} {w : World} {σ : List OB}
theorem qoJ{o:Oper}{r:R}{os:List Operand}(hc:qkB P js imp o=some (r,os))(hk:r.kd= .eff){vs:wi}{ρ:Operand->Value}(hρ: ∀c,ρ (.const c)=c)(hρg: ∀g,ρ (.global g)= .pointer (some ⟨g,0,none⟩))(hv:VRs w σ vs (os.map ρ)){h:wh}(H:HR w σ h){b:Nat}{t:wi}{d:Option Nat}{nx:Nx}(he:effE b h r vs t d nx):
  U9 P w σ ρ o t d nx:=by
 unfold qkB at hc;split at hc
 ·rename_i ho;split at hc
  ·rename_i j e _ _;cases hs:ji P e with
   |none=>simp[hs]at hc
   |some sz=>simp[hs]at hc;obtain⟨rfl,rfl⟩:=hc;exact qkH (.inl ho) hρ H he
  ·cases hc;simp[R.kd]at hk
 ·rename_i ho;split at hc
  ·rename_i j e _ _;cases hs:ji P e with
   |none=>simp[hs]at hc
   |some sz=>simp[hs]at hc;obtain⟨rfl,rfl⟩:=hc;exact qkH (.inr ho) hρ H he
  ·cases hc;simp[R.kd]at hk
 ·rename_i x _ ho;cases hc;simp[R.kd]at hk
 ·rename_i x _ ho;cases hc;simp[R.kd]at hk
 ·cases hc;simp[R.kd]at hk
 ·rename_i op t x y u ho;split at hc
  ·cases hc;simp[R.kd]at hk
  ·cases hc;simp[R.kd]at hk
  ·rename_i ht;split at hc
   ·cases hc;simp[R.kd]at hk
   ·cases hc;simp[R.kd]at hk
   ·cases hc
  ·rename_i fs ht;split at hc
   ·rename_i ks hks hb;simp at hb;split at hc
    ·cases hc;simp[R.kd]at hk
    ·cases hc;simp[R.kd]at hk
    ·cases hc
   ·cases hc
  ·rename_i d _ _ _ _ ht;split at hc
   ·rename_i k hk';obtain⟨n,z,v,rfl,rfl,h1,h2,h3⟩:=kY hc;simp[R.kd]at hk
   ·cases hc
  ·cases hc
 ·rename_i op t x ho;cases hc;simp[R.kd]at hk
 ·rename_i s d x ho;split at hc
  ·rename_i j k h1 h2;cases hc;simp[R.kd]at hk
  ·rename_i e h1 h2;split at hc
   ·rename_i hu;split at hc
    ·cases hc;exact qte ho h1 h2 (qdI hu) H hv he
    ·cases hc;exact qx0 ho h1 h2 (qdI hu) H hv he
   ·cases hc
  ·split at hc
   ·cases hc;simp[R.kd]at hk
   ·cases hc
  ·cases hc
 ·rename_i t x f ho;cases hf:km P t f with
  |none=>simp[hf]at hc
  |some p=>simp[hf]at hc;obtain⟨rfl,rfl⟩:=hc;simp[R.kd]at hk
 ·rename_i x i ho;cases hc;simp[R.kd]at hk
 ·rename_i t ps ho;split at hc
  ·rename_i z l hz hl hb;cases hc;simp[R.kd]at hk
  ·cases hc
 ·rename_i f first cap ho;cases hc;simp[R.kd]at hk
 ·rename_i t x i ho;split at hc
  ·rename_i ht;cases hc;simp[R.kd]at hk
  ·split at hc
   ·cases hc;simp[R.kd]at hk
   ·cases hc
  ·cases hc
 ·rename_i t x lo hi ho;split at hc
  ·rename_i ht;cases hc;simp[R.kd]at hk
  ·rename_i e ht;cases hs:ji P e with
   |none=>simp[hs]at hc
   |some sz=>simp[hs]at hc;obtain⟨rfl,rfl⟩:=hc;simp[R.kd]at hk
  ·cases hc
 ·rename_i t x i ho;split at hc
  ·rename_i e ht;cases hs:ji P e with
   |none=>simp[hs]at hc
   |some sz=>simp[hs]at hc;obtain⟨rfl,rfl⟩:=hc;simp[R.kd]at hk
  ·rename_i n e ht;split at hc
   ·rename_i g;cases hs:P.info? e with
    |none=>simp[ji,hs]at hc
    |some j=>simp[ji,hs]at hc;obtain⟨rfl,rfl⟩:=hc;exact qxZ ho ht hs hρg H hv he
   ·cases hs:ji P e with
    |none=>simp[hs]at hc
    |some sz=>simp[hs]at hc;obtain⟨rfl,rfl⟩:=hc;simp[R.kd]at hk
  ·cases hc
 ·rename_i t x f ho;cases hf:km P t f with
  |none=>simp[hf]at hc
  |some p=>simp[hf]at hc;obtain⟨rfl,rfl⟩:=hc;simp[R.kd]at hk
 ·rename_i t x ho;cases hf:qaa P t with
  |none=>simp[hf]at hc
  |some p=>simp[hf]at hc;obtain⟨rfl,rfl⟩:=hc;simp[R.kd]at hk
 ·cases hc;simp[R.kd]at hk
 ·rename_i ty ho;split at hc
  ·rename_i j z _ hz;cases hc;exact qoF ho hz H he
  ·cases hc
 ·rename_i ty x ho;cases hf:qai js o.dst with
  |none=>simp[hf]at hc
  |some p=>simp[hf]at hc;obtain⟨rfl,rfl⟩:=hc;exact qxX ho H hv he
 ·rename_i ty a x ho;cases hf:P.info? ty with
  |none=>simp[ji,hf]at hc
  |some i=>simp[ji,hf]at hc;obtain⟨rfl,rfl⟩:=hc;exact qoH ho hf H hv he
 ·rename_i ty l c ho;split at hc
  ·rename_i j e _ ht;split at hc
   ·rename_i z i hz hi;cases hc;exact qoG ho ht hz hi H hv he
   ·cases hc
  ·cases hc
 ·rename_i ty n ps ho;split at hc
  ·rename_i j e _ ht;split at hc
   ·rename_i z i hz hi;simp at hc;obtain⟨h1,rfl,rfl⟩:=hc;exact qtd ho ht hz hi h1 H hv he
   ·cases hc
  ·cases hc
 ·rename_i c ho;split at hc
  ·split at hc
   ·split at hc
    ·cases hc;simp[R.kd]at hk
    ·rename_i hb _ _ _ _ e1 e2 _ ht;cases hc;simp[R.kd]at hk
    ·cases hc
   ·cases hc
  ·split at hc
   ·split at hc
    ·cases hc;simp[R.kd]at hk
    ·cases hc
   ·cases hc
  ·rename_i hcal;split at hc
   ·split at hc
    ·cases hc;simp[R.kd]at hk
    ·cases hc
   ·cases hc
  ·rename_i hcal;split at hc
   ·split at hc
    ·cases hc;simp[R.kd]at hk
    ·cases hc
   ·cases hc
  ·rename_i hcal;split at hc
   ·rename_i e1 e2;split at hc
    ·rename_i ht _;simp at hc;obtain⟨heq,i,hi,rfl,rfl⟩:=hc;subst heq;exact qxW ho hcal e1 e2 ht hi H hv he
    ·rename_i ht hu;simp at hc;obtain⟨hB,rfl,rfl⟩:=hc;exact qtc ho hcal e1 e2 ht hu hB H hv he
    ·cases hc
   ·cases hc
  ·rename_i hcal;split at hc
   ·rename_i e1 e2;split at hc
    ·rename_i ht hu;split at hc
     ·rename_i hi;cases hc;exact qxY ho hcal e1 e2 ht hi H hv he
     ·cases hc
    ·cases hc
   ·cases hc
  ·split at hc
   ·cases hc;simp[R.kd]at hk
   ·cases hc
  ·cases hc;simp[R.kd]at hk
  ·cases hc
 ·cases hc
end
end AF
end
section
namespace AF
open Go
theorem UA: ∀(n:Nat) (t:wi) (v:AV),(jv n t v).length=t.length:=by
 intro n t
 induction t generalizing n with
 |nil=>intro v;cases n<;>rfl
 |cons a t ih=>intro v;cases n with
  |zero=>rfl
  |succ n=>simp[jv,ih]
theorem qaZ: ∀(n:Nat) (t:wi) (v:AV) (i:Nat),(jv n t v)[i]? =if i=n∧i<t.length then some v else t[i]? :=by
 intro n t
 induction t generalizing n with
 |nil=>intro v i;cases n<;>simp[jv]
 |cons a t ih=>intro v i;cases n with
  |zero=>cases i<;>simp[jv]
  |succ n=>cases i with
   |zero=>simp[jv]
   |succ i=>simp[jv,ih]
theorem qb3: ∀(n:Nat) (t:wi),zU n t=(t[n]?).getD .undef:=by
 intro n t
 induction t generalizing n with
 |nil=>cases n<;>rfl
 |cons a t ih=>cases n with
  |zero=>rfl
  |succ n=>simp[zU,ih]
section
variable {P : Program} {js : List Tmp} {imp : List FuncId} {w : World} {σ : List OB} {D : Nat} {t : wi} {h : wh} {a : Act}
theorem SR.put(H:SR D w σ t h a){w':World}{σ':List OB}{h':wh}(hr:HR w' σ' h')(e:Ext w σ w' σ'){v:AV}{x:Value}(hv:VR w' σ' v x)(d:Option Tmp):SR D w' σ' (qY t d v) h' (a.put d x):=by
 cases d with
 |none=>exact⟨hr,H.sz,λi c y hc hy=>(H.tm i c y hc hy).ext e,qaH e H.df⟩
 |some d=>
  refine⟨hr,by simp[qY,Act.put,UA,H.sz],λi c y hc hy=> ?_,qaH e H.df⟩;simp only[qY,qaZ]at hc;simp only[Act.put,Array.getElem?_setIfInBounds]at hy;split at hc
  ·rename_i hi;obtain⟨rfl,hlt⟩:=hi;cases hc;simp[H.sz,hlt]at hy;subst hy;exact hv
  ·rename_i hi;split at hy
   ·rename_i hd;subst hd;split at hy
    ·exact absurd ⟨rfl,by rw[<-H.sz];assumption⟩ hi
    ·cases hy
   ·exact (H.tm i c y hc hy).ext e
theorem SR.evs(H:SR D w σ t h a){os:List Operand}{xs:List X}(hx:qxN os=some xs):VRs w σ (AF.evs t xs) (os.map a.eval):=qs6 H.sz H.tm hx
theorem qe2{o:Oper}{ρ:Operand->Value}{F:Fence}(h: ∀c,o.op≠ .defer c):o.semAt F.round ρ=execOp ρ o:=Oper.semAt_eq _ _ _ h
theorem qez{o:Oper}{r:R}{os:List Operand}(hc:qkB P js imp o=some (r,os)): ∀c,o.op≠ .defer c:=by
 intro c e;simp[qkB,e]at hc
theorem qbs{o:Oper}{c:Call}{ρ:Operand->Value}{x:Operand}(hc:c.callee= .value x):resolve ρ c o.type=Deferred.ofValue (ρ x) (c.args.map ρ):=by
 simp[resolve,hc]
theorem qom{o:Oper}{c:Call}{ρ:Operand->Value}{f:FuncId}(ho:o.op= .call c)(hc:c.callee= .value (.func f))(hρ:ρ (.func f)= .func (.func f) #[] #[])(hf:okF P f=true):
  (execOp ρ o).run P w= .ok (.enter f (c.args.map ρ)) w:=by
 unfold okF at hf;cases hfn:P.funcs[f]? with
 |none=>simp[hfn]at hf
 |some fn=>
  simp[hfn]at hf;have h1:fn.body.isNone=false:=by cases hb:fn.body<;>simp_all
  have h2 : (fn.name == "runtime.NumGoroutine") = false := by simpa using hf.2
  simp only[execOp,ho,qbs hc,hρ,Deferred.ofValue,Sem.run_bind,Sem.run_pure,Result.andThen_ok,invoke,callFunc,Array.append_empty,Array.empty_append];simp[program,Sem.run,hfn];rw[if_neg hf.2,if_neg (by cases hb:fn.body<;>simp_all)]
theorem qkc{o:Oper}{c:Call}{ρ:Operand->Value}{x:Operand}{f:FuncId}{us vs:Array Value}(ho:o.op= .call c)(hc:c.callee= .value x)(hρ:ρ x= .func (.func f) us vs)(hf:okF P f=true):
  (execOp ρ o).run P w= .ok (.enter f (us++c.args.map ρ++vs)) w:=by
 unfold okF at hf;cases hfn:P.funcs[f]? with
 |none=>simp[hfn]at hf
 |some fn=>
  simp[hfn]at hf;have h1:fn.body.isNone=false:=by cases hb:fn.body<;>simp_all
  have h2 : (fn.name == "runtime.NumGoroutine") = false := by simpa using hf.2
  simp only[execOp,ho,qbs hc,hρ,Deferred.ofValue,Sem.run_bind,Sem.run_pure,Result.andThen_ok,invoke,callFunc];simp[program,Sem.run,hfn];rw[if_neg hf.2,if_neg (by cases hb:fn.body<;>simp_all)]
theorem qfM{k:NK}{op:BinOp}{x y:Operand}{r:R}{os:List Operand}(h:qdD k op x y=some (r,os)):r.kd= .pure:=by
 obtain⟨n,z,v,rfl,_⟩:=kY h;rfl
def UK(o:Oper)(r:R)(os:List Operand):Prop:=
 (∀f p,r= .call f p-> ∃c,o.op= .call c∧c.callee= .value (.func f)∧os=c.args.toList)∧
  (r= .callv-> ∃c t,o.op= .call c∧c.callee= .value (.tmp t)∧os= .tmp t::c.args.toList)∧(r= .pick-> ∃c x y,o.op= .pick c x y∧os= [c,x,y])
theorem UK.of{o:Oper}{r:R}{os:List Operand}(h:r.kd= .pure∨r.kd= .mem∨r.kd= .eff):UK o r os:=by
 refine⟨λf p e=> ?_,λe=> ?_,λe=> ?_⟩<;>(subst e;simp[R.kd]at h)
theorem qkC{o:Oper}{r:R}{os:List Operand}(hc:qkB P js imp o=some (r,os)):UK o r os:=by
 unfold qkB at hc;split at hc
 case h_5=>
  rename_i ho;cases hc;exact⟨λf p h=>(by cases h),λh=>(by cases h),λ_=>⟨_,_,_,ho,rfl⟩⟩
 case h_24 c ho=>
  split at hc
  case h_7 hcal=>
   split at hc
   ·cases hc;exact⟨λf p h=>(by cases h;exact⟨c,ho,hcal,rfl⟩),λh=>(by cases h),λh=>(by cases h)⟩
   ·cases hc
  case h_8 hcal=>
   cases hc;exact⟨λf p h=>(by cases h),λ_=>⟨c,_,ho,hcal,rfl⟩,λh=>(by cases h)⟩
  all_goals
   (repeat' split at hc)
   all_goals first
    |(cases hc;done)
    |(cases hc;exact UK.of (by simp[R.kd]))
    |(simp at hc;obtain⟨i,h1,h2,h3⟩:=hc;subst h2;subst h3;exact UK.of (by simp[R.kd]))
    |(simp at hc;obtain⟨h1,h2,h3⟩:=hc;subst h2;subst h3;exact UK.of (by simp[R.kd]))
 all_goals
  (repeat' split at hc)
  all_goals first
   |(cases hc;done)
   |(cases hc;exact UK.of (by simp[R.kd]))
   |(exact UK.of (.inl (qfM hc)))
   |(simp at hc;obtain⟨i,hi,h2,h3⟩:=hc;subst h2;subst h3;exact UK.of (by simp[R.kd]))
   |(simp at hc;obtain⟨i,j,hi,h2,h3⟩:=hc;subst h2;subst h3;exact UK.of (by simp[R.kd]))
   |(simp at hc;obtain⟨h1,h2,h3⟩:=hc;subst h2;subst h3;exact UK.of (by simp[R.kd]))
theorem VRs.split{w:World}{σ:List OB}{as bs:wi}{xs ys:List Value}(h:VRs w σ as xs)(h':VRs w σ bs ys):VRs w σ (as++bs) (xs++ys):=by
 refine⟨by simp[h.1,h'.1],λi c x hc hx=> ?_⟩;rw[List.getElem?_append]at hc hx;split at hc
 ·rename_i hi;rw[if_pos (by rw[h.1];exact hi)]at hx;exact h.2 i c x hc hx
 ·rename_i hi;rw[if_neg (by rw[h.1];exact hi),h.1]at hx;exact h'.2 _ c x hc hx
theorem qvf{c x y:AV}{u v z:Value}(hok:UX c x y)(hc:VR w σ c u)(hx:VR w σ x v)(hy:VR w σ y z): ∃b,u= .bool b∧VR w σ (kp c x y) (if b then v else z):=by
 have fin: ∀(b:Bool),(b=true->x.flag=true)->(b=false->y.flag=true)->qaB c.strip=b->VR w σ (kp c x y) (if b then v else z):=by
  intro b h1 h2 h3;have hs:VR w σ (if b then x.strip else y.strip) (if b then v else z):=by
   cases b
   ·exact qef hy (h2 rfl)
   ·exact qef hx (h1 rfl)
  unfold kp;split
  ·rename_i p q e1 e2;rw[h3];rw[e1,e2]at hs;cases b
   ·have:=jT hs;simp at this;subst this;simp;exact qdm
   ·have:=jT hs;simp at this;subst this;simp;exact qdm
  ·rw[h3];cases b<;>exact hs
 unfold UX at hok;split at hok
 ·rename_i b;exact⟨b,jT hc,fin b hok.1 hok.2 rfl⟩
 ·rename_i g b;obtain⟨rfl,h1,h2⟩:=hok;exact⟨b,jT ((qnB hc).1 rfl),fin b h1 h2 rfl⟩
 ·exact hok.elim
theorem qh0(H:SR D w σ t h a){ops:Array Oper}{j:Nat}{d:Tmp}(hd:(ops[j]?).bind (·.dst)=some d)(hok:zP (zU d t)=true)(want:Bool):(yielded ops a.tmps j==some want)=qS (zU d t) want:=by
 rw[qb3]at hok ⊢;cases hc:t[d]? with
 |none=>rw[hc]at hok;cases hok
 |some c=>
  rw[hc,Option.getD_some]at hok;have hlt:d<a.tmps.size:=by rw[H.sz];exact (List.getElem?_eq_some_iff.1 hc).1
  have hx:a.tmps[d]? =some a.tmps[d]:=Array.getElem?_eq_getElem hlt;have hv:=H.tm d c _ hc hx;have hy:yielded ops a.tmps j=match a.tmps[d]with| .bool b=>some b|_=>none:=by
   unfold yielded;rw[hd,Option.bind_some,hx];cases a.tmps[d]<;>rfl
  rw[hy,Option.getD_some];cases c<;>simp only[zP]at hok<;>try cases hok
  ·have:=jT hv
   rw[this];rfl
  ·rename_i g v;cases v<;>simp only[zP]at hok<;>try cases hok
   rename_i b;obtain⟨h1,h2⟩:=qnB hv;cases g with
   |true=>
    have:=jT (h1 rfl)
    rw[this];simp[qS]
   |false=>
    have:=h2 rfl
    rw[this];simp[qS,Go.undef]
theorem qsJ{f:FuncId}{args:wi}{xs:List Value}{h h':wh}{v:AV}(hA:ACalls P f args h v h')(H:HR w σ h)(hv:VRs w σ args xs){ρ':Option Nat}{o:Oper}{a:Act}{next:Act->World->Prop}{Q:Exit->Act->World->Prop}
  (hn: ∀x w' σ',HR w' σ' h'->VR w' σ' v x->Ext w σ w' σ'->next (a.put o.dst x) w') {arr:Array Value} (harr:arr=xs.toArray):o.uponIn (FW ρ') 0 P a next Q (.ok (.enter f arr) w):=by
 subst harr;rw[Oper.uponIn_enter];refine⟨λh=>by simp[FW,Fence.wide]at h,?_⟩;exact (hA.2 w σ xs H hv).mono λe w' ⟨y,σ',he,h1,h2,h3⟩=>by subst he;exact hn y w' σ' h1 h2 h3
theorem ACalls.toQ{f:FuncId}{args:wi}{h h':wh}{r:AV}(hc:ACalls P f args h r h'):jj P f args h λr1 h1=>r1=r∧h1=h':=⟨hc.1,λw σ xs H hv=>(hc.2 w σ xs H hv).mono (by rintro e w' ⟨v,σ',g1,g2,g3,g4⟩;exact⟨v,σ',r,h',⟨rfl,rfl⟩,g1,g2,g3,g4⟩)⟩
theorem qoj{f:FuncId}{args:wi}{xs:List Value}{h:wh}{R:AV->wh->Prop}(hA:jj P f args h R)(H:HR w σ h)(hv:VRs w σ args xs){ρ':Option Nat}{o:Oper}{a:Act}{next:Act->World->Prop}{Q:Exit->Act->World->Prop}
  (hn: ∀v h' x w' σ',R v h'->HR w' σ' h'->VR w' σ' v x->Ext w σ w' σ'->next (a.put o.dst x) w') {arr:Array Value} (harr:arr=xs.toArray):o.uponIn (FW ρ') 0 P a next Q (.ok (.enter f arr) w):=by
 subst harr;rw[Oper.uponIn_enter];refine⟨λh=>by simp[FW,Fence.wide]at h,?_⟩;exact (hA.2 w σ xs H hv).mono λe w' ⟨y,σ',v,h',hR,he,h1,h2,h3⟩=>by subst he;exact hn v h' y w' σ' hR h1 h2 h3
theorem qne{ρ':Option Nat}{o:Oper}{v:AV}{next:Act->World->Prop}{Q:Exit->Act->World->Prop}(h:zK P w σ a.eval o v)(hn: ∀x,VR w σ v x->next (a.put o.dst x) w):
  o.uponIn (FW ρ') 0 P a next Q ((execOp a.eval o).run P w):=by
 obtain⟨x,hx,hr⟩:=h;rw[hx,Oper.uponIn_value];exact hn x hr
theorem qqR{ρ':Option Nat}{o:Oper}{c:Call}{tm:Tmp}(H:HR w σ h)(ho:o.op= .call c)(hcal:c.callee= .value (.tmp tm)){vs:wi}(hv:VRs w σ vs ((Operand.tmp tm::c.args.toList).map a.eval)){nx:Nx}
  (h2:qaE P vs o.dst nx t h) {next:Act->World->Prop} {Q:Exit->Act->World->Prop}
  (hn: ∀v x w' σ' h',HR w' σ' h'->Ext w σ w' σ'->VR w' σ' v x->nx (qY t o.dst v) h'->next (a.put o.dst x) w'):o.uponIn (FW ρ') 0 P a next Q ((execOp a.eval o).run P w):=by
 rw[List.map_cons]at hv;unfold qaE at h2;split at h2
 ·rename_i f first cap args
  obtain⟨x,rest,hxr,hx,hrest⟩:=hv.cons;simp only[List.cons.injEq]at hxr;obtain⟨rfl,rfl⟩:=hxr;obtain⟨us,zs,ef,l1,l2,v1,v2⟩:=qgo hx;obtain⟨R,hA,h3⟩:=h2;rw[qkc ho hcal ef hA.1];have a1:VRs w σ first us.toList:=⟨by simpa using l1,λi c x hc hx=>v1 i c x hc (by simpa using hx)⟩
  have a2:VRs w σ cap zs.toList:=⟨by simpa using l2,λi c x hc hx=>v2 i c x hc (by simpa using hx)⟩
  exact qoj hA H ((a1.split hrest).split a2) (λv h' x w' σ' g0 g1 g2 g3=>hn v x w' σ' h' g1 g3 g2 (h3 v h' g0)) (by
   apply Array.ext'
   simp)
 ·rename_i k args;obtain⟨x,rest,hxr,hx,hrest⟩:=hv.cons;simp only[List.cons.injEq]at hxr;obtain⟨rfl,rfl⟩:=hxr;obtain⟨⟨s0,ts0,L0,hrec⟩,hY⟩:=h2;obtain⟨ob,g1,g2⟩:=qBx hx;obtain⟨q1,bl,rr0,q2,q3,-⟩:=H.obj k _ _ hrec g1;obtain⟨bl',q4,q5⟩:=g2 q1;rw[q2]at q4;cases q4;obtain⟨fn,tmps,asg,body,r1,r2⟩:=hY w σ _ bl H hrest ⟨ob,g1,q1,q2⟩;have hrun:(execOp a.eval o).run P w= .ok (.round bl fn tmps asg body) w:=by
   simp only[execOp,ho,qbs hcal,q5,Deferred.ofValue,Sem.run_bind,Sem.run_pure,Result.andThen_ok,invoke,Array.append_empty,Array.empty_append]
   have:(c.args.map a.eval)=((c.args.toList.map a.eval).toArray):=by
    apply Array.ext';rw[Array.toList_map]
   rw[this];exact r1
  rw[hrun,Oper.uponIn_round];refine⟨λh=>by simp[FW,Fence.wide]at h,?_⟩
  have:=r2.mono (R':=fun
   | .returned v,w''=>next (a.put o.dst v) w''
   | .panicked chain,w''=>Q (.panic chain) a w''
   | .outgrown,_=>LetsOut Q) (λe w' ⟨rb,σ',h',e1,e2,e3,e4⟩=>by
    subst e1
    exact hn _ _ _ _ _ e2 e3 qdm e4)
  exact this
 ·exact h2.elim
theorem jY{ρ':Option Nat}{ops:Array Oper}{o:Oper}{ro:RO}(hc:qs5 P js imp ops o=some ro){b:Nat}{nx:Nx}(hs:stepO P b ro nx t h)(H:SR D w σ t h a){next:Act->World->Prop}{Q:Exit->Act->World->Prop}
  (hn: ∀a' w' σ' t' h',SR D w' σ' t' h' a'->Ext w σ w' σ'->nx t' h'->next a' w'):
  if Region.wanted o (yielded ops a.tmps) then o.wpIn (FW ρ') 0 P a w next Q else (∀f,o.about P w a.eval=some f->(FW ρ').fn f)∧next (a.put o.dst Go.undef) w:=by
 have hfn: ∀f,(FW ρ').fn f:=λ_=>trivial
 unfold qs5 at hc;split at hc
 ·rename_i r os hcv;split at hc
  ·rename_i ys hys;have hv:=H.evs hys;have hnd:=qez hcv;obtain⟨hc1,hc2,hc3⟩:=qkC hcv;have hρ: ∀c,a.eval (.const c)=c:=λ_=>rfl
   generalize hvs:AF.evs t ys=vs at hv;have goP:r.kd= .pure->flags vs->okP r (strips vs)->(∀x,VR w σ (valP r (strips vs)) x->next (a.put o.dst x) w)->o.uponIn (FW ρ') 0 P a next Q ((execOp a.eval o).run P w):=
    λhk h1 h2 h3=>qne (qkL hcv hk hρ (hv.strips h1) h2) h3
   have goM:r.kd= .mem->flags vs->okL h r (strips vs)->(∀x,VR w σ (valL h r (strips vs)) x->next (a.put o.dst x) w)->o.uponIn (FW ρ') 0 P a next Q ((execOp a.eval o).run P w):=
    λhk h1 h2 h3=>qne (qoK hcv hk hρ (hv.strips h1) H.hr h2) h3
   have goE:r.kd= .eff->flags vs->effE b h r (strips vs) t o.dst nx->o.uponIn (FW ρ') 0 P a next Q ((execOp a.eval o).run P w):=by
    intro hk h1 h2;obtain⟨nv,x,w',σ',v,h',e1,e2,e3,e4,e5,e6⟩:=qoJ hcv hk hρ (λ_=>rfl) (hv.strips h1) H.hr h2;rw[e1]
    have:=hn _ _ _ _ _ (H.put e3 e5 e4 o.dst) e5 e6
    rcases e2 with rfl|⟨rfl,rfl⟩
    ·rw[Oper.uponIn_value];exact this
    ·rw[Oper.uponIn_skip];exact this
   have goC: ∀f p v h',r.kd= .call f p->flags vs->ACalls P f (strips vs) h v h'->(∀x w' σ',HR w' σ' h'->VR w' σ' v x->Ext w σ w' σ'->next (a.put o.dst x) w')->o.uponIn (FW ρ') 0 P a next Q ((execOp a.eval o).run P w):=by
    intro f p v h' hk h1 h2 h3;have hr:r= .call f p:=by
     cases r<;>simp only[R.kd]at hk<;>first|cases hk;rfl|cases hk
    obtain⟨c,ho,hcal,rfl⟩:=hc1 f p hr;rw[qom ho hcal rfl h2.1];exact qsJ h2 H.hr (hv.strips h1) h3 (by apply Array.ext';simp)
   have goV:r.kd= .callv->flags vs->qaE P (strips vs) o.dst nx t h->o.uponIn (FW ρ') 0 P a next Q ((execOp a.eval o).run P w):=by
    intro hk h1 h2;have hr:r= .callv:=by cases r<;>simp only[R.kd]at hk<;>first|rfl|cases hk
    obtain⟨c,tm,ho,hcal,rfl⟩:=hc2 hr;exact qqR H.hr ho hcal (hv.strips h1) h2 (λv x w' σ' h' g1 g2 g3 g4=>hn _ _ _ _ _ (H.put g1 g2 g3 o.dst) g2 g4)
   have goK: ∀c x y,r.kd= .pick->vs= [c,x,y]->UX c x y->(∀z,VR w σ (kp c x y) z->next (a.put o.dst z) w)->o.uponIn (FW ρ') 0 P a next Q ((execOp a.eval o).run P w):=by
    intro c x y hk hvs h1 h2;have hr:r= .pick:=by cases r<;>simp only[R.kd]at hk<;>first|rfl|cases hk
    obtain⟨oc,ox,oy,ho,rfl⟩:=hc3 hr;subst hvs;obtain⟨p,q,s,hpqs,g1,g2,g3⟩:=hv.three;simp only[List.map_cons,List.map_nil,List.cons.injEq,and_true]at hpqs;obtain⟨rfl,rfl,rfl⟩:=hpqs;obtain⟨bb,e1,e2⟩:=qvf h1 g1 g2 g3;exact qne ⟨_,by simp[execOp,ho,e1,asBool],e2⟩ h2
   have same: ∀ {v x},VR w σ v x->nx (qY t o.dst v) h->next (a.put o.dst x) w:=λhv hk=>hn _ _ _ _ _ (H.put H.hr (Ext.refl w σ) hv o.dst) (Ext.refl w σ) hk
   split at hc
   ·rename_i hg;cases hc;have hw:Region.wanted o (yielded ops a.tmps)=true:=by simp[Region.wanted,hg]
    rw[if_pos hw];refine⟨λf _=>hfn f,?_⟩;rw[qe2 hnd];have hs':stepA P b r r.kd vs o.dst nx t h:=hvs▸hs;cases hk:r.kd with
    |pure=>rw[hk]at hs';exact goP hk hs'.1 hs'.2.1 (λx hx=>same hx hs'.2.2)
    |mem=>rw[hk]at hs';exact goM hk hs'.1 hs'.2.1 (λx hx=>same hx hs'.2.2)
    |eff=>rw[hk]at hs';exact goE hk hs'.1 hs'.2
    |call f p=>
     rw[hk]at hs';obtain⟨h1,v,h',h2,_,h3⟩:=hs';exact goC f p v h' hk h1 h2 (λx w' σ' g1 g2 g3=>hn _ _ _ _ _ (H.put g1 g3 g2 o.dst) g3 h3)
    |callv=>rw[hk]at hs';exact goV hk hs'.1 hs'.2
    |pick=>
     rw[hk]at hs'
     match vs,hs' with
     | [c,x,y],hs'=>exact goK c x y hk rfl hs'.1 (λz hz=>same hz hs'.2)
   ·rename_i j want hg;split at hc
    ·rename_i d hd;cases hc;obtain⟨hgo,hs⟩:=hs;have hgs:=qh0 H hd hgo want;have hw:Region.wanted o (yielded ops a.tmps)=qS (zU d t) want:=by simp only[Region.wanted,hg];exact hgs
     rw[hw];have hs':kO P b r r.kd (qS (zU d t) want) vs o.dst nx t h:=hvs▸hs;generalize qS (zU d t) want=g at hs' ⊢;cases g with
     |true=>
      rw[if_pos rfl];refine⟨λf _=>hfn f,?_⟩;rw[qe2 hnd];have gd: ∀ {w':World} {σ':List OB} {v:AV} {x:Value},VR w' σ' v x->VR w' σ' (.gd true v) x:=λhx=> .gd (λ_=>hx) (λh=>by cases h)
      cases hk:r.kd with
      |pure=>rw[hk]at hs';exact goP hk (hs'.1 rfl).1 (hs'.1 rfl).2 (λx hx=>same (gd hx) hs'.2)
      |mem=>rw[hk]at hs';exact goM hk (hs'.1 rfl).1 (hs'.1 rfl).2 (λx hx=>same (gd hx) hs'.2)
      |eff=>rw[hk]at hs';exact goE hk (hs'.1 rfl).1 (hs'.1 rfl).2
      |call f p=>
       rw[hk]at hs';obtain⟨v,h',h1,_,h3⟩:=hs';exact goC f p v h' hk (h1 rfl).1 (h1 rfl).2.1 (λx w' σ' g1 g2 g3=>hn _ _ _ _ _ (H.put g1 g3 (gd g2) o.dst) g3 h3)
      |callv=>rw[hk]at hs';exact goV hk (hs'.1 rfl).1 (hs'.1 rfl).2
      |pick=>
       rw[hk]at hs'
       match vs,hs' with
       | [c,x,y],hs'=>exact goK c x y hk rfl (hs'.1 rfl) (λz hz=>same (gd hz) hs'.2)
     |false=>
      rw[if_neg (by simp)];refine⟨λf _=>hfn f,?_⟩;have und: ∀(v:AV),VR w σ (.gd false v) Go.undef:=λv=> .gd (λh=>by cases h) (λ_=>rfl)
      cases hk:r.kd with
      |pure=>rw[hk]at hs';exact same (und _) hs'.2
      |mem=>rw[hk]at hs';exact same (und _) hs'.2
      |eff=>rw[hk]at hs';exact same qeg (hs'.2 rfl)
      |call f p=>rw[hk]at hs';obtain⟨v,h',_,h2,h3⟩:=hs';rw[h2 rfl]at h3;exact same (und _) h3
      |callv=>rw[hk]at hs';exact same qeg (hs'.2 rfl)
      |pick=>
       rw[hk]at hs'
       match vs,hs' with
       | [c,x,y],hs'=>exact same (und _) hs'.2
    ·cases hc
  ·cases hc
 ·cases hc
theorem qrK{h:wh}{r:R}{vs:wi}(hr:qpe r≠r)(hok:okP (qpe r) vs):r.kd= .mem∧(qpe r).kd= .pure∧okL h r vs∧valL h r vs=valP (qpe r) vs:=by
 cases r<;>first|exact absurd rfl hr|skip
 all_goals refine⟨rfl,rfl,?_⟩
 all_goals
  simp only[qpe]at hok ⊢;unfold okP at hok;split at hok
 all_goals first
  |contradiction
  |(rename_i h1;cases h1;exact⟨hok,rfl⟩)
  |exact⟨hok,rfl⟩
  |exact False.elim hok
theorem qAe(r:R)(h:qpe r≠r):r.kd= .mem∧(qpe r).kd= .pure:=by
 cases r<;>first|exact absurd rfl h|exact⟨rfl,rfl⟩
theorem SR.gdf{w:World}{σ:List OB}{t:wi}{h:wh}{a:Act}{d:Option Nat}{u v:AV}(H:SR D w σ (qY t d (.gd false u)) h a):SR D w σ (qY t d (.gd false v)) h a:=by
 cases d with
 |none=>exact H
 |some d=>
  refine⟨H.hr,?_,λi c x hc hx=> ?_,H.df⟩
  ·have:=H.sz
   simpa only[qY,UA] using this
  ·have htm:=H.tm i;simp only[qY,qaZ]at hc htm
   by_cases e:i=d∧i<t.length
   ·rw[if_pos e]at hc htm;cases hc;exact .gd (λhf=>by cases hf) (λ_=>(qnB (htm _ x rfl hx)).2 rfl)
   ·rw[if_neg e]at hc htm;exact htm c x hc hx
theorem qiy{ρ':Option Nat}{ops:Array Oper}{o:Oper}{ro:RO}(hc:qs4 P js imp ops o=some ro){b:Nat}{nx:Nx}(hs:stepO P b ro nx t h)(H:SR D w σ t h a){next:Act->World->Prop}{Q:Exit->Act->World->Prop}
  (hn: ∀a' w' σ' t' h',SR D w' σ' t' h' a'->Ext w σ w' σ'->nx t' h'->next a' w'):
  if Region.wanted o (yielded ops a.tmps) then o.wpIn (FW ρ') 0 P a w next Q else (∀f,o.about P w a.eval=some f->(FW ρ').fn f)∧next (a.put o.dst Go.undef) w:=by
 unfold qs4 at hc;rw[Option.map_eq_some_iff]at hc;obtain⟨o0,hc,rfl⟩:=hc;unfold qAd at hs;split at hs
 ·rename_i d hd;split at hs
  ·by_cases hr:qpe o0.op=o0.op
   ·rw[hr]at hs;exact jY hc hs H hn
   ·obtain⟨k1,k2⟩:=qAe o0.op hr;cases hg:o0.g with
    |none=>
     refine jY (b:=b) hc (nx:=nx) ?_ H hn;unfold stepO at hs ⊢;dsimp only at hs;rw[hg]at hs ⊢;dsimp only at hs ⊢;unfold stepA at hs ⊢;rw[k2]at hs;rw[k1];obtain⟨h1,h2,h3⟩:=hs;obtain⟨_,_,g1,g2⟩:=qrK (h:=h) hr h2;exact⟨h1,g1,by rw[g2];exact h3⟩
    |some jw=>
     obtain⟨j,want⟩:=jw;unfold stepO at hs;dsimp only at hs;rw[hg]at hs;dsimp only at hs;unfold kO at hs;rw[k2]at hs;dsimp only at hs;obtain⟨q0,q1,q2⟩:=hs;cases hgb:qS (zU j t) want with
     |true=>
      rw[hgb]at q1 q2;obtain⟨h1,h2⟩:=q1 rfl;obtain⟨_,_,g1,g2⟩:=qrK (h:=h) hr h2;refine jY (b:=b) hc (nx:=nx) ?_ H hn;unfold stepO;rw[hg];dsimp only;unfold kO;rw[k1];exact⟨q0,λ_=>⟨h1,g1⟩,by rw[hgb,g2];exact q2⟩
     |false=>
      rw[hgb]at q2;refine jY (b:=b) hc (nx:=λt' h'=>t'=qY t o0.dst (.gd false (valL h o0.op (strips (evs t o0.xs))))∧h'=h) ?_ H (λa' w' σ' t' h' hsr hex heq=> ?_)
      ·unfold stepO;rw[hg];dsimp only;unfold kO;rw[k1];exact⟨q0,(show (qS (zU j t) want=true->flags (evs t o0.xs)∧okL h o0.op (strips (evs t o0.xs)))∧_ from ⟨λhf=>(by rw[hgb]at hf;cases hf),by rw[hgb];exact⟨rfl,rfl⟩⟩)⟩
      ·obtain⟨rfl,rfl⟩:=heq;exact hn _ _ _ _ _ hsr.gdf hex q2
  ·exact jY hc hs H hn
 ·exact jY hc hs H hn
theorem qeA{b:Nat}{h:wh}{r:R}{vs:wi}{t:wi}{d:Option Nat}{nx nx':Nx}(hm: ∀t h,nx t h->nx' t h)(hs:effE b h r vs t d nx):effE b h r vs t d nx':=by
 unfold effE at hs ⊢;split at hs<;>first|exact⟨hs.1,hm _ _ hs.2⟩|(obtain⟨cs,h1,h2,h3,h4⟩:=hs;exact⟨cs,h1,h2,h3,hm _ _ h4⟩)|exact hs.elim
theorem kr.mono{k:Nat}{args:wi}{h:wh}{Q Q':AV->wh->Prop}(hq: ∀v h,Q v h->Q' v h)(hs:kr P k args h Q):kr P k args h Q':=by
 intro w σ xs b g1 g2 g3;obtain⟨fn,tmps,asg,body,r1,r2⟩:=hs w σ xs b g1 g2 g3;exact⟨fn,tmps,asg,body,r1,r2.mono λe w' ⟨r,σ',h',e1,e2,e3,e4⟩=>⟨r,σ',h',e1,e2,e3,hq _ _ e4⟩⟩
theorem qcY{vs:wi}{d:Option Nat}{t:wi}{h:wh}{nx nx':Nx}(hm: ∀t h,nx t h->nx' t h)(hs:qaE P vs d nx t h):qaE P vs d nx' t h:=by
 unfold qaE at hs ⊢;split at hs
 ·obtain⟨R,h1,h2⟩:=hs;exact⟨R,h1,λv h' hR=>hm _ _ (h2 v h' hR)⟩
 ·exact⟨hs.1,hs.2.mono λv h' hh=>hm _ _ hh⟩
 ·exact hs.elim
theorem kB{b:Nat}{o:RO}{nx nx':Nx}(hm: ∀t h,nx t h->nx' t h){t:wi}{h:wh}(hs:stepO P b o nx t h):stepO P b o nx' t h:=by
 unfold stepO at hs ⊢;split at hs
 ·unfold stepA at hs ⊢;cases hk:o.op.kd with
  |pure=>rw[hk]at hs;exact⟨hs.1,hs.2.1,hm _ _ hs.2.2⟩
  |mem=>rw[hk]at hs;exact⟨hs.1,hs.2.1,hm _ _ hs.2.2⟩
  |eff=>rw[hk]at hs;exact⟨hs.1,qeA hm hs.2⟩
  |call f p=>rw[hk]at hs;obtain⟨h1,v,h',h2,h3,h4⟩:=hs;exact⟨h1,v,h',h2,h3,hm _ _ h4⟩
  |callv=>rw[hk]at hs;exact⟨hs.1,qcY hm hs.2⟩
  |pick=>
   rw[hk]at hs;dsimp only at hs ⊢;split at hs
   ·exact⟨hs.1,hm _ _ hs.2⟩
   ·exact hs.elim
 ·refine⟨hs.1,?_⟩;replace hs:=hs.2;unfold kO at hs ⊢;cases hk:o.op.kd with
  |pure=>rw[hk]at hs;exact⟨hs.1,hm _ _ hs.2⟩
  |mem=>rw[hk]at hs;exact⟨hs.1,hm _ _ hs.2⟩
  |eff=>rw[hk]at hs;exact⟨λhg=>⟨(hs.1 hg).1,qeA hm (hs.1 hg).2⟩,λhg=>hm _ _ (hs.2 hg)⟩
  |call f p=>rw[hk]at hs;obtain⟨v,h',h1,h2,h3⟩:=hs;exact⟨v,h',h1,h2,hm _ _ h3⟩
  |callv=>rw[hk]at hs;exact⟨λhg=>⟨(hs.1 hg).1,qcY hm (hs.1 hg).2⟩,λhg=>hm _ _ (hs.2 hg)⟩
  |pick=>
   rw[hk]at hs;dsimp only at hs ⊢;split at hs
   ·exact⟨hs.1,hm _ _ hs.2⟩
   ·exact hs.elim
def qeS(P:Program)(b:Nat)(all:List RO):List Nat->Nx->Nx
 | [],K,t,h=>K t h
 |i::r,K,t,h=>match all[i]? with
  |some o=>stepO P b o (qeS P b all r K) t h
  |none=>qeS P b all r K t h
theorem qbl{ρ':Option Nat}{ops:Array Oper}{all:List RO}(hlen:all.length=ops.size)(hall: ∀(i:Nat) o ro,ops[i]? =some o->all[i]? =some ro->qs4 P js imp ops o=some ro){b:Nat}{K:Nx}{Q:Exit->Act->World->Prop}:
  ∀(L:List Nat) {w:World} {σ:List OB} {t:wi} {h:wh} {a:Act},qeS P b all L K t h->SR D w σ t h a->(∀a' w' σ' t' h',SR D w' σ' t' h' a'->Ext w σ w' σ'->K t' h'->Q .normal a' w')->wpOpsIn (FW ρ') 0 P ops Q L a w:=by
 intro L
 induction L with
 |nil=>intro w σ t h a hs H hn;exact hn _ _ _ _ _ H (Ext.refl w σ) hs
 |cons i r ih=>
  intro w σ t h a hs H hn;simp only[wpOpsIn];simp only[qeS]at hs;cases ho:ops[i]? with
  |none=>
   have:all[i]? =none:=by
    rw[List.getElem?_eq_none_iff,hlen];exact Array.getElem?_eq_none_iff.1 ho
   rw[this]at hs;exact ih hs H hn
  |some o=>
   have hlt:i<all.length:=by rw[hlen];exact (Array.getElem?_eq_some_iff.1 ho).1
   have hro:all[i]? =some all[i]:=List.getElem?_eq_getElem hlt;rw[hro]at hs;exact qiy (hall i o _ ho hro) hs H (λa' w' σ' t' h' g1 g2 g3=>ih g3 g1 (λa'' w'' σ'' t'' h'' k1 k2 k3=>hn a'' w'' σ'' t'' h'' k1 (g2.trans k2) k3))
theorem qic(b:Nat)(K:Nx): ∀(pre rest:List RO) (t:wi) (h:wh),opsA P b rest K t h->qeS P b (pre++rest) ((List.range rest.length).map (· +pre.length)) K t h:=by
 intro pre rest
 induction rest generalizing pre with
 |nil=>intro t h hs;exact hs
 |cons o r ih=>
  intro t h hs;have hrange:(List.range (o::r).length).map (· +pre.length)=pre.length::(List.range r.length).map (· +(pre++ [o]).length):=by
   rw[List.length_cons,List.range_succ_eq_map];simp only[List.map_cons,List.map_map,Nat.zero_add,List.cons.injEq,true_and];apply List.map_congr_left;intro x _;simp;omega
  rw[hrange];simp only[qeS];have hget:(pre++o::r)[pre.length]? =some o:=by simp
  rw[hget];have heq:pre++o::r=(pre++ [o])++r:=by simp
  rw[heq];exact kB (λt h hh=>ih (pre++ [o]) t h hh) hs
end
end AF
end
section
namespace AF
open Go
section
variable {P : Program}
theorem qb1{b:Nat}{h:wh}{r:R}{vs:wi}{t:wi}{d:Option Nat}{nx:Nx}:
  effE b h r vs t d nx↔ ∃v h',effE b h r vs [.undef] (some 0) (λt' h''=>t'= [v]∧h''=h')∧nx (qY t d v) h':=by
 constructor
 ·intro hs;unfold effE at hs ⊢;split at hs<;>first|exact⟨_,_,⟨hs.1,rfl,rfl⟩,hs.2⟩|(obtain⟨cs,h1,h2,h3,h4⟩:=hs;exact⟨_,_,⟨cs,h1,h2,h3,rfl,rfl⟩,h4⟩)|exact hs.elim
 ·rintro⟨v,h',h1,h2⟩;unfold effE at h1 ⊢;split at h1<;>first|exact h1.elim|(obtain⟨cs,c1,c2,c3,g2,g3⟩:=h1;refine⟨cs,c1,c2,c3,?_⟩;simp[qY,jv]at g2;subst g2;subst g3;exact h2)|(obtain⟨g1,g2,g3⟩:=h1;refine⟨g1,?_⟩;simp[qY,jv]at g2;subst g2;subst g3;exact h2)
def qvI(P:Program)(b:Nat)(r:R)(k:Kd)(vs:wi)(h:wh)(v:AV)(h':wh):Prop:=
 match k with
 | .pick=>match vs with
  | [c,x,y]=>UX c x y∧v=kp c x y∧h'=h
  |_=>False
 | .pure=>flags vs∧okP r (strips vs)∧v=valP r (strips vs)∧h'=h
 | .mem=>flags vs∧okL h r (strips vs)∧v=valL h r (strips vs)∧h'=h
 | .eff=>flags vs∧effE b h r (strips vs) [.undef] (some 0) (λt' h''=>t'= [v]∧h''=h')
 | .call f p=>flags vs∧ACalls P f (strips vs) h v h'∧(p=true->h'=h)
 | .callv=>False
def qvJ(P:Program)(b:Nat)(r:R)(k:Kd)(g:Bool)(vs:wi)(h:wh)(v:AV)(h':wh):Prop:=
 match k with
 | .pick=>match vs with
  | [c,x,y]=>(g=true->UX c x y)∧v= .gd g (kp c x y)∧h'=h
  |_=>False
 | .pure=>(g=true->flags vs∧okP r (strips vs))∧v= .gd g (valP r (strips vs))∧h'=h
 | .mem=>(g=true->flags vs∧okL h r (strips vs))∧v= .gd g (valL h r (strips vs))∧h'=h
 | .eff=>(g=true∧flags vs∧effE b h r (strips vs) [.undef] (some 0) (λt' h''=>t'= [v]∧h''=h'))∨(g=false∧v= .undef∧h'=h)
 | .call f p=> ∃u,(g=true->flags vs∧ACalls P f (strips vs) h u h'∧(p=true->h'=h))∧(g=false->h'=h)∧v= .gd g u
 | .callv=>False
def qel(P:Program)(b:Nat)(o:RO)(t:wi)(h:wh)(v:AV)(h':wh):Prop:=
 match o.g with
 |none=>qvI P b o.op o.op.kd (evs t o.xs) h v h'
 |some (j,want)=>zP (zU j t)=true∧qvJ P b o.op o.op.kd (qS (zU j t) want) (evs t o.xs) h v h'
def qbk:Kd->Bool
 | .callv=>true
 |_=>false
theorem kP{b:Nat}{o:RO}(hk:qbk o.op.kd=false){nx:Nx}{t:wi}{h:wh}:stepO P b o nx t h↔ ∃v h',qel P b o t h v h'∧nx (qY t o.dst v) h':=by
 unfold stepO qel;rcases hg:o.g with _|⟨j,want⟩
 ·dsimp only;unfold stepA qvI;cases hkd:o.op.kd with
  |pure=>exact⟨λhs=>⟨_,_,⟨hs.1,hs.2.1,rfl,rfl⟩,hs.2.2⟩,λ⟨v,h',⟨h1,h2,h3,h4⟩,h5⟩=>by subst h3 h4;exact⟨h1,h2,h5⟩⟩
  |mem=>exact⟨λhs=>⟨_,_,⟨hs.1,hs.2.1,rfl,rfl⟩,hs.2.2⟩,λ⟨v,h',⟨h1,h2,h3,h4⟩,h5⟩=>by subst h3 h4;exact⟨h1,h2,h5⟩⟩
  |eff=>
   refine⟨λhs=> ?_,λ⟨v,h',⟨h1,h2⟩,h3⟩=>⟨h1,qb1.2 ⟨v,h',h2,h3⟩⟩⟩;obtain⟨v,h',h1,h2⟩:=qb1.1 hs.2;exact⟨v,h',⟨hs.1,h1⟩,h2⟩
  |call f p=>exact⟨λ⟨h1,v,h',h2,h3,h4⟩=>⟨v,h',⟨h1,h2,h3⟩,h4⟩,λ⟨v,h',⟨h1,h2,h3⟩,h4⟩=>⟨h1,v,h',h2,h3,h4⟩⟩
  |callv=>rw[hkd]at hk;cases hk
  |pick=>
   dsimp only;generalize evs t o.xs=vs;constructor
   ·intro hs;split at hs
    ·exact⟨_,_,⟨hs.1,rfl,rfl⟩,hs.2⟩
    ·exact hs.elim
   ·rintro⟨v,h',h1,h5⟩;split at h1
    ·obtain⟨h1,rfl,rfl⟩:=h1;exact⟨h1,h5⟩
    ·exact h1.elim
 ·dsimp only;generalize qS (zU j t) want=g;unfold kO qvJ;cases hkd:o.op.kd with
  |pure=>exact⟨λhs=>⟨_,_,⟨hs.1,hs.2.1,rfl,rfl⟩,hs.2.2⟩,λ⟨v,h',⟨h1,h2,h3,h4⟩,h5⟩=>by subst h3 h4;exact⟨h1,h2,h5⟩⟩
  |mem=>exact⟨λhs=>⟨_,_,⟨hs.1,hs.2.1,rfl,rfl⟩,hs.2.2⟩,λ⟨v,h',⟨h1,h2,h3,h4⟩,h5⟩=>by subst h3 h4;exact⟨h1,h2,h5⟩⟩
  |eff=>
   constructor
   ·rintro⟨h0,h1,h2⟩;cases g with
    |true=>
     obtain⟨v,h',g1,g2⟩:=qb1.1 (h1 rfl).2;exact⟨v,h',⟨h0,.inl ⟨rfl,(h1 rfl).1,g1⟩⟩,g2⟩
    |false=>exact⟨_,_,⟨h0,.inr ⟨rfl,rfl,rfl⟩⟩,h2 rfl⟩
   ·rintro⟨v,h',⟨h0,⟨rfl,h1,h2⟩|⟨rfl,rfl,rfl⟩⟩,h3⟩
    ·exact⟨h0,λ_=>⟨h1,qb1.2 ⟨v,h',h2,h3⟩⟩,λh=>by cases h⟩
    ·exact⟨h0,λh=>(by cases h),λ_=>h3⟩
  |call f p=>exact⟨λ⟨h0,v,h',h1,h2,h3⟩=>⟨_,h',⟨h0,v,h1,h2,rfl⟩,h3⟩,λ⟨v,h',⟨h0,u,h1,h2,h3⟩,h4⟩=>by subst h3;exact⟨h0,u,h',h1,h2,h4⟩⟩
  |callv=>rw[hkd]at hk;cases hk
  |pick=>
   dsimp only;generalize evs t o.xs=vs;constructor
   ·rintro⟨h0,hs⟩;split at hs
    ·exact⟨_,_,⟨h0,hs.1,rfl,rfl⟩,hs.2⟩
    ·exact hs.elim
   ·rintro⟨v,h',⟨h0,h1⟩,h5⟩;split at h1
    ·obtain⟨h1,rfl,rfl⟩:=h1;exact⟨h0,h1,h5⟩
    ·exact h1.elim
def RO.looks(o:RO):List Nat:=
 (o.xs.filterMap fun| .t n=>some n|_=>none)++(match o.g with|some (j,_)=> [j]|none=> [])
def qg4:Kd->Bool
 | .pure| .mem| .pick=>true
 | .call _ p=>p
 |_=>false
def qet:Kd->Bool
 | .pure| .pick=>true
 |_=>false
def RO.indep(x y:RO):Bool:=
 !qbk x.op.kd&& !qbk y.op.kd&&((qg4 x.op.kd&&qg4 y.op.kd)||qet x.op.kd||qet y.op.kd)&&
 (match x.dst with|some d=> !y.looks.contains d&&y.dst !=some d|none=>true)&&
 (match y.dst with|some d=> !x.looks.contains d|none=>true)
theorem qbC{n d:Nat}(h:n≠d)(t:wi)(v:AV):zU n (jv d t v)=zU n t:=by
 rw[qb3,qb3,qaZ,if_neg (λe=>h e.1)]
theorem qx2{x:X}{d:Option Nat}{t:wi}{v:AV}(h: ∀n,x= .t n->d≠some n):ev (qY t d v) x=ev t x:=by
 cases x with
 |c v=>rfl
 |t n=>
  cases d with
  |none=>rfl
  |some d=>exact qbC (λe=>h n rfl (by rw[e])) t v
theorem qkK{d:Option Nat}{t:wi}{v:AV}: ∀ {xs:List X},(∀n,.t n∈xs->d≠some n)->evs (qY t d v) xs=evs t xs:=by
 intro xs
 induction xs with
 |nil=>intro _;rfl
 |cons x xs ih=>
  intro h;simp only[evs];rw[qx2 (λn e=>h n (by rw[e];simp)),ih (λn hn=>h n (by simp[hn]))]
theorem qaX{b:Nat}{o:RO}{d:Option Nat}(h: ∀n,d=some n->n∉o.looks){t:wi}{u:AV}{h0:wh}{v:AV}{h':wh}:qel P b o (qY t d u) h0 v h'↔qel P b o t h0 v h':=by
 have hx:evs (qY t d u) o.xs=evs t o.xs:=qkK (λn hn e=>h n e (by
  unfold RO.looks
  exact List.mem_append_left _ (List.mem_filterMap.2 ⟨.t n,hn,rfl⟩)))
 unfold qel;rw[hx];rcases hg:o.g with _|⟨j,want⟩
 ·exact Iff.rfl
 ·dsimp only;have hj:zU j (qY t d u)=zU j t:=by
   cases d with
   |none=>rfl
   |some d=>exact qbC (λe=>h d rfl (by unfold RO.looks;rw[hg];simp[e])) t u
  rw[hj]
theorem qbq{b:Nat}{o:RO}(hq:qg4 o.op.kd=true){t:wi}{h:wh}{v:AV}{h':wh}(hr:qel P b o t h v h'):h'=h:=by
 unfold qel at hr;rcases hg0:o.g with _|⟨j,want⟩<;>rw[hg0]at hr<;>dsimp only at hr
 ·unfold qvI at hr;cases hk:o.op.kd with
  |pure=>rw[hk]at hr;exact hr.2.2.2
  |mem=>rw[hk]at hr;exact hr.2.2.2
  |eff=>rw[hk]at hq;cases hq
  |call f p=>rw[hk]at hr hq;exact hr.2.2 hq
  |callv=>rw[hk]at hq;cases hq
  |pick=>rw[hk]at hr;dsimp only at hr;split at hr;exact hr.2.2;exact hr.elim
 ·replace hr:=hr.2;unfold qvJ at hr;cases hk:o.op.kd with
  |pure=>rw[hk]at hr;exact hr.2.2
  |mem=>rw[hk]at hr;exact hr.2.2
  |eff=>rw[hk]at hq;cases hq
  |call f p=>
   rw[hk]at hr hq;obtain⟨u,h1,h2,_⟩:=hr;cases hg:qS (zU j t) want
   ·exact h2 hg
   ·exact (h1 hg).2.2 hq
  |callv=>rw[hk]at hq;cases hq
  |pick=>rw[hk]at hr;dsimp only at hr;split at hr;exact hr.2.2;exact hr.elim
theorem qbp{b:Nat}{o:RO}(hq:qet o.op.kd=true){t:wi}{h h0:wh}{v:AV}{h':wh}(hr:qel P b o t h v h'):h'=h∧qel P b o t h0 v h0:=by
 unfold qel at hr ⊢;rcases hg:o.g with _|⟨j,want⟩<;>rw[hg]at hr<;>dsimp only at hr ⊢
 ·unfold qvI at hr ⊢;cases hk:o.op.kd with
  |pure=>rw[hk]at hr;exact⟨hr.2.2.2,hr.1,hr.2.1,hr.2.2.1,rfl⟩
  |pick=>rw[hk]at hr;dsimp only at hr ⊢;split at hr;exact⟨hr.2.2,hr.1,hr.2.1,rfl⟩;exact hr.elim
  |mem=>rw[hk]at hq;cases hq
  |eff=>rw[hk]at hq;cases hq
  |call f p=>rw[hk]at hq;cases hq
  |callv=>rw[hk]at hq;cases hq
 ·obtain⟨hgo,hr⟩:=hr;unfold qvJ at hr ⊢;cases hk:o.op.kd with
  |pure=>rw[hk]at hr;exact⟨hr.2.2,hgo,hr.1,hr.2.1,rfl⟩
  |pick=>rw[hk]at hr;dsimp only at hr ⊢;split at hr;exact⟨hr.2.2,hgo,hr.1,hr.2.1,rfl⟩;exact hr.elim
  |mem=>rw[hk]at hq;cases hq
  |eff=>rw[hk]at hq;cases hq
  |call f p=>rw[hk]at hq;cases hq
  |callv=>rw[hk]at hq;cases hq
theorem qmy{d e:Nat}(hne:d≠e): ∀(t:wi) (v u:AV),jv d (jv e t u) v=jv e (jv d t v) u:=by
 intro t v u;apply List.ext_getElem?;intro i;simp only[qaZ,UA]
 by_cases h1:i=d∧i<t.length
 ·have: ¬(i=e∧i<t.length):=λh=>hne (h1.1.symm.trans h.1)
  rw[if_pos h1,if_neg this,if_pos h1]
 ·rw[if_neg h1]
  by_cases h2:i=e∧i<t.length
  ·rw[if_pos h2,if_pos h2]
  ·rw[if_neg h2,if_neg h2,if_neg h1]
theorem qeU{d e:Option Nat}(hne: ∀n,d=some n->e≠some n)(t:wi)(v u:AV):qY (qY t e u) d v=qY (qY t d v) e u:=by
 cases d with
 |none=>rfl
 |some d=>
  cases e with
  |none=>rfl
  |some e=>exact qmy (λh=>hne d rfl (by rw[h])) t v u
theorem qmU{b:Nat}{x y:RO}(hi:x.indep y=true){K:Nx}{t:wi}{h:wh}(hs:stepO P b x (stepO P b y K) t h):stepO P b y (stepO P b x K) t h:=by
 simp only[RO.indep,Bool.and_eq_true,Bool.not_eq_true',Bool.or_eq_true]at hi;obtain⟨⟨⟨⟨cx,cy⟩,hq⟩,hx⟩,hy⟩:=hi;have hx1: ∀n,x.dst=some n->n∉y.looks:=λn e=>by rw[e]at hx;simp at hx;exact hx.1
 have hx2: ∀n,x.dst=some n->y.dst≠some n:=λn e=>by rw[e]at hx;simp at hx;exact hx.2
 have hy1: ∀n,y.dst=some n->n∉x.looks:=λn e=>by rw[e]at hy;simpa using hy
 obtain⟨v,h1,r1,hs⟩:=(kP cx).1 hs;obtain⟨u,h2,r2,hs⟩:=(kP cy).1 hs;rw[qaX hx1]at r2;rw[qeU (λn e e'=>hx2 n e' e)]at hs;have fin: ∀ha,qel P b y t h u ha->qel P b x t ha v h2->stepO P b y (stepO P b x K) t h:=λha g1 g2=>
  (kP cy).2 ⟨u,ha,g1,(kP cx).2 ⟨v,h2,(qaX hy1).2 g2,hs⟩⟩
 rcases hq with (⟨q1,q2⟩|q1)|q2
 ·have e1:=qbq q1 r1;subst e1;have e2:=qbq q2 r2;subst e2;exact fin _ r2 r1
 ·obtain⟨e1,r1'⟩:=qbp (h0:=h2) q1 r1;subst e1;exact fin _ r2 r1'
 ·obtain⟨e1,r2'⟩:=qbp (h0:=h) q2 r2;subst e1;exact fin _ r2' r1
theorem qib{b:Nat}{all:List RO}{K:Nx}{i:Nat}{y:RO}(hy:all[i]? =some y): ∀(A B:List Nat) {t:wi} {h:wh},(∀a∈A,∃x,all[a]? =some x∧x.indep y=true)->
  qeS P b all (A++i::B) K t h->qeS P b all (i::(A++B)) K t h:=by
 intro A
 induction A with
 |nil=>intro B t h _ hs;exact hs
 |cons a A ih=>
  intro B t h hA hs;obtain⟨x,hx,hxy⟩:=hA a (by simp);simp only[List.cons_append,qeS,hx,hy]at hs ⊢;refine qmU hxy (kB (λt' h' hh=> ?_) hs)
  have:=ih B (λa' ha'=>hA a' (by simp[ha'])) hh
  simp only[qeS,hy]at this;exact this
def qgZ(ops:Array Oper)(j:Nat):List Nat:=
 match ops[j]? with
 |some o=>(o.after.toList.filter λe=>Region.binds .any e).map λe=>e.on
 |none=> []
def qfi(ops:Array Oper):Nat->List Nat->Nat->Nat
 |0,_,seen=>seen
 |_+1,[],seen=>seen
 |n+1,k::st,seen=>if seen.testBit k then qfi ops n st seen else qfi ops n (qgZ ops k++st) (seen|||2^k)
def qpZ(ops:Array Oper)(n j i:Nat):Bool:=(qfi ops (8*n+8) (qgZ ops j) 0).testBit i
def qkG(ops:Array Oper)(all:List RO):Bool:=
 ((List.range ops.size).all λj=>match ops[j]? with
  |some o=>o.after.all λe=> !Region.binds .any e||decide (e.on<j)
  |none=>true)&&
 ((List.range ops.size).all λj=>(List.range j).all λi=>qpZ ops ops.size j i||(match all[i]?,all[j]? with
  |some x,some y=>x.indep y
  |_,_=>false))
def qfE(ops:Array Oper)(listed:Array Bool):Prop:= ∀(k:Nat) (o:Oper),ops[k]? =some o->listed.getD k false=true-> ∀e∈o.after,Region.binds .any e=true->listed.getD e.on false=true
theorem qaW{ops:Array Oper}{listed:Array Bool}{j:Nat}(h: ∀o,ops[j]? =some o-> ∀e∈o.after,Region.binds .any e=true->listed.getD e.on false=true): ∀k∈qgZ ops j,listed.getD k false=true:=by
 intro k hk;unfold qgZ at hk;split at hk
 ·rename_i o ho;obtain⟨e,he,rfl⟩:=List.mem_map.1 hk;obtain⟨h1,h2⟩:=List.mem_filter.1 he;exact h o ho e (Array.mem_toList_iff.1 h1) h2
 ·simp at hk
theorem qeh{ops:Array Oper}{listed:Array Bool}(hd:qfE ops listed): ∀(n:Nat) (st:List Nat) (seen:Nat),(∀k∈st,listed.getD k false=true)->(∀i,seen.testBit i=true->listed.getD i false=true)-> ∀i,(qfi ops n st seen).testBit i=true->listed.getD i false=true:=by
 intro n
 induction n with
 |zero=>intro st seen _ h i hi;exact h i hi
 |succ n ih=>
  intro st seen hst h i hi;cases st with
  |nil=>exact h i hi
  |cons k st=>
   rw[qfi]at hi;have hk:=hst k (by simp);split at hi
   ·exact ih st seen (λa ha=>hst a (by simp[ha])) h i hi
   ·refine ih _ _ (λa ha=> ?_) (λa ha=> ?_) i hi
    ·rcases List.mem_append.1 ha with ha|ha
     ·exact qaW (λo ho=>hd k o ho hk) a ha
     ·exact hst a (by simp[ha])
    ·rw[Nat.testBit_or,Bool.or_eq_true]at ha;rcases ha with ha|ha
     ·exact h a ha
     ·rw[Nat.testBit_two_pow]at ha
      have:k=a:=by simpa using ha
      rw[<-this];exact hk
theorem qbM{ops:Array Oper}{listed:Array Bool}(hd:qfE ops listed): ∀(n j i:Nat),(∀o,ops[j]? =some o-> ∀e∈o.after,Region.binds .any e=true->listed.getD e.on false=true)->qpZ ops n j i=true->listed.getD i false=true:=by
 intro n j i hj h;exact qeh hd _ _ _ (qaW hj) (λi hi=>by simp at hi) i h
def qW(n:Nat)(listed:Array Bool):List Nat:=(List.range n).filter λi=> !listed.getD i true
theorem qbr{n i:Nat}{listed:Array Bool}(hs:listed.size=n){A B:List Nat}(h:qW n listed=A++i::B):qW n (listed.setIfInBounds i true)=A++B:=by
 have hmem:i∈qW n listed:=by rw[h];simp
 have hi:i<n∧listed.getD i true=false:=by
  unfold qW at hmem;rw[List.mem_filter]at hmem;exact⟨by simpa using hmem.1,by simpa using hmem.2⟩
 have hnd:(qW n listed).Nodup:=(List.Pairwise.filter _ List.pairwise_lt_range).imp (λh=>Nat.ne_of_lt h);have key:qW n (listed.setIfInBounds i true)=(qW n listed).filter (λk=>k !=i):=by
  unfold qW;rw[List.filter_filter];apply List.filter_congr;intro k hk
  by_cases hki:k=i
  ·subst hki
   have:k<listed.size:=by rw[hs];exact hi.1
   simp[this]
  ·have hne:i≠k:=λe=>hki e.symm
   simp[hki,Array.getElem?_setIfInBounds_ne hne]
 rw[key,h,List.filter_append,List.filter_cons];rw[h]at hnd;have h1:=List.nodup_append.1 hnd;have hA: ∀k∈A,k≠i:=λk hk e=>h1.2.2 k hk i (by simp) e
 have hB: ∀k∈B,k≠i:=λk hk e=>by
  have:=(List.nodup_cons.1 h1.2.1).1
  exact this (e▸hk)
 rw[List.filter_eq_self.2 (λk hk=>by simp[hA k hk]),List.filter_eq_self.2 (λk hk=>by simp[hB k hk])];simp
theorem qoE{b:Nat}{ops:Array Oper}{all:List RO}{K:Nx}(hc:qkG ops all=true)(hlen:all.length=ops.size): ∀(fuel n:Nat) (listed:Array Bool) {t:wi} {h:wh},listed.size=ops.size->qfE ops listed->(qW ops.size listed).length<=fuel->
  qeS P b all (qW ops.size listed) K t h->qeS P b all (Region.linearise.go .any ops fuel n listed []) K t h:=by
 unfold qkG at hc;rw[Bool.and_eq_true]at hc;obtain⟨hback,hpair⟩:=hc;intro fuel
 induction fuel with
 |zero=>
  intro n listed t h _ _ hf hs
  have:qW ops.size listed= []:=List.eq_nil_of_length_eq_zero (by omega)
  rw[this]at hs;exact hs
 |succ fuel ih=>
  intro n listed t h hsz hd hf hs;simp only[Region.linearise.go];change qeS P b all (match (Region.ready .any ops listed)[n%(Region.ready .any ops listed).length]? with
   |some i=>Region.linearise.go .any ops fuel (n/(Region.ready .any ops listed).length) (listed.setIfInBounds i true) [i]
   |none=> [].reverse) K t h
  cases hi:(Region.ready .any ops listed)[n%(Region.ready .any ops listed).length]? with
  |none=>
   have hnil:Region.ready .any ops listed= []:=by
    cases hr:Region.ready .any ops listed with
    |nil=>rfl
    |cons x xs=>
     rw[hr]at hi;have hlt:n%(x::xs).length<(x::xs).length:=Nat.mod_lt _ (by simp);rw[List.getElem?_eq_getElem hlt]at hi;cases hi
   have hrem:qW ops.size listed= []:=by
    cases hr:qW ops.size listed with
    |nil=>rfl
    |cons m r=>
     --the first one that is left is ready
     have hm:m∈qW ops.size listed:=by rw[hr];simp
     have hm':m<ops.size∧listed.getD m true=false:=by
      unfold qW at hm;rw[List.mem_filter]at hm;exact⟨by simpa using hm.1,by simpa using hm.2⟩
     have hall:m∈Region.ready .any ops listed:=by
      rw[mem_ready];refine⟨hm'.2,ops[m],by simp[hm'.1],λe he hb=> ?_⟩;have h1:=(List.all_eq_true.1 hback) m (by simp[hm'.1]);simp only[Array.getElem?_eq_getElem hm'.1]at h1;have h2:=(Array.all_eq_true_iff_forall_mem.1 h1) e he;simp only[hb,Bool.not_true,Bool.false_or,decide_eq_true_eq]at h2
      --what lies before it is listed
      have hlt:e.on<listed.size:=by omega
      by_cases hl:listed.getD e.on false=true
      ·exact hl
      ·exfalso;have hin:e.on∈qW ops.size listed:=by
        unfold qW;rw[List.mem_filter];refine⟨by simp;omega,?_⟩;simp[hlt]at hl ⊢;exact hl
       rw[hr]at hin;have hsorted:(m::r).Pairwise (· < ·):=by
        rw[<-hr];unfold qW;exact List.Pairwise.filter _ List.pairwise_lt_range
       rcases List.mem_cons.1 hin with h3|h3
       ·omega
       ·have:=(List.pairwise_cons.1 hsorted).1 _ h3
        omega
     rw[hnil]at hall;cases hall
   rw[hrem]at hs;exact hs
  |some i=>
   simp only[];rw[linearise_go_acc,List.reverse_singleton,List.singleton_append];have hrd:i∈Region.ready .any ops listed:=List.mem_of_getElem? hi;obtain⟨hun,o,ho,hedges⟩:=mem_ready.1 hrd;have hilt:i<ops.size:=(Array.getElem?_eq_some_iff.1 ho).1;have hmem:i∈qW ops.size listed:=by
    unfold qW;rw[List.mem_filter];exact⟨by simp[hilt],by simp only[hun,Bool.not_false]⟩
   obtain⟨A,B,hAB⟩:=List.append_of_mem hmem;have hy:all[i]? =some all[i]:=List.getElem?_eq_getElem (by omega);have hsorted:(A++i::B).Pairwise (· < ·):=by
    rw[<-hAB];unfold qW;exact List.Pairwise.filter _ List.pairwise_lt_range
   have hA: ∀a∈A,∃x,all[a]? =some x∧x.indep all[i]=true:=by
    intro a ha;have hai:a<i:=(List.pairwise_append.1 hsorted).2.2 a ha i (by simp);have hain:a∈qW ops.size listed:=by rw[hAB];simp[ha]
    have haun:listed.getD a true=false:=by
     unfold qW at hain;rw[List.mem_filter]at hain;simpa using hain.2
    have h1:=(List.all_eq_true.1 ((List.all_eq_true.1 hpair) i (by simp[hilt]))) a (by simp[hai]);rw[Bool.or_eq_true]at h1;rcases h1 with h1|h1
    ·exfalso
     have:=qbM hd _ i a (λo' ho' e he hb=>by rw[ho]at ho';cases ho';exact hedges e he hb) h1
     have hlt:a<listed.size:=by omega
     simp[hlt]at this haun;rw[haun]at this;cases this
    ·refine⟨all[a],List.getElem?_eq_getElem (by omega),?_⟩;rw[List.getElem?_eq_getElem (show a<all.length by omega),hy]at h1;exact h1
   rw[hAB]at hs;have hfront:=qib hy A B hA hs;have hset:=qbr hsz hAB;simp only[qeS,hy]at hfront ⊢;refine kB (λt' h' hh=> ?_) hfront;refine ih _ _ (by simp[hsz]) ?_ ?_ (by rw[hset];exact hh)
   ·intro k o' ho' hk e he hb
    by_cases hki:k=i
    ·subst hki;rw[ho]at ho';cases ho';exact getD_set_true (hedges e he hb)
    ·rw[getD_set_ne false (Ne.symm hki)]at hk;exact getD_set_true (hd k o' ho' hk e he hb)
   ·rw[hset]
    have:=hf
    rw[hAB]at this;simp at this ⊢;omega
end
end AF
end
section
namespace AF
open Go
section
variable {P : Program}
def qmC:R->Option Nat
 | .nilo j _ _=>some j
 | .alloc j _ _=>some j
 | .box j _=>some j
 | .mkslc j .. =>some j
 | .bslc j .. =>some j
 | .s2bo j _=>some j
 |_=>none
theorem qaO{k j:Nat}{h:wh}{o:AObj}(hne:k≠j):qu k (qt j h o)=qu k h:=by unfold qu qt;rw[List.getElem?_set_ne (λe=>hne e.symm)]
theorem qil{i j:Nat}{h:wh}{o o':AObj}(hne:i≠j):qt i (qt j h o) o'=qt j (qt i h o') o:=by unfold qt;rw[List.set_comm _ _ (λe=>hne e.symm)]
theorem qbv{h h0:wh}{k:Nat}(e:qu k h0=qu k h):qz h0 k=qz h k:=by unfold qz;rw[e]
theorem quU{r:R}{j:Nat}(h:qmC r=some j):r.kd= .eff:=by cases r<;>first|rfl|cases h
theorem qgG{b j:Nat}{r:R}(hj:qmC r=some j){h h':wh}{vs:wi}{v:AV}(he:effE b h r vs [.undef] (some 0) (λt' h''=>t'= [v]∧h''=h')):
  ∃O,h'=qt (b+j) h O∧ ∀h0,qu (b+j) h0=qu (b+j) h->effE b h0 r vs [.undef] (some 0) (λt' h''=>t'= [v]∧h''=qt (b+j) h0 O):=by
 cases r with
 |nilo i sz ty=>
  cases hj;unfold effE at he;split at he<;>rename_i hq<;>first|cases hq|skip
  all_goals first
   |exact (he:False).elim
   |exact⟨_,he.2.2.symm,λh0 e=>⟨by have:=he.1;rw[<-qbv e]at this;exact this,by have:=he.2.1;rw[<-e]at this;exact this,by rw[e]⟩⟩
 |alloc i ty z=>
  cases hj;unfold effE at he;split at he<;>rename_i hq<;>first|cases hq|skip
  all_goals first
   |exact (he:False).elim
   |exact⟨_,he.2.2.symm,λh0 e=>⟨by have:=he.1;rw[<-qbv e]at this;exact this,by have:=he.2.1;rw[<-e]at this;exact this,by rw[e]⟩⟩
 |box i ty=>
  cases hj;unfold effE at he;split at he<;>rename_i hq<;>first|cases hq|skip
  all_goals first
   |exact (he:False).elim
   |exact⟨_,he.2.2.symm,λh0 e=>⟨by have:=he.1;rw[<-qbv e]at this;exact this,by have:=he.2.1;rw[<-e]at this;exact this,by rw[e]⟩⟩
 |mkslc i sz ty z bytes=>
  cases hj;unfold effE at he;split at he<;>rename_i hq<;>first|cases hq|skip
  all_goals first
   |exact (he:False).elim
   |exact⟨_,he.2.2.symm,λh0 e=>⟨by have:=he.1;rw[<-qbv e]at this;exact this,by have:=he.2.1;rw[<-e]at this;exact this,by rw[e]⟩⟩
 |bslc i sz n ty z ps=>
  cases hj;unfold effE at he;split at he<;>rename_i hq<;>first|cases hq|skip
  all_goals first
   |exact (he:False).elim
   |exact⟨_,he.2.2.symm,λh0 e=>⟨by have:=he.1;rw[<-qbv e]at this;exact this,by have:=he.2.1;rw[<-e]at this;exact this,by rw[e]⟩⟩
 |s2bo i ty=>
  cases hj;unfold effE at he;split at he<;>rename_i hq<;>first|cases hq|skip
  all_goals first
   |exact (he:False).elim
   |exact⟨_,he.2.2.symm,λh0 e=>⟨by have:=he.1;rw[<-qbv e]at this;exact this,by have:=he.2.1;rw[<-e]at this;exact this,by rw[e]⟩⟩
 |_=>cases hj
def qAT(P:Program)(o:RO)(t:wi)(v:AV)(h:wh):Prop:=
 flags (evs t o.xs)∧match strips (evs t o.xs)with
  | .fn (.func f) first cap::args=>ACalls P f (first++args++cap) h v h
  |_=>False
def qda(P:Program)(b:Nat)(o:RO)(t:wi)(h:wh)(v:AV)(h':wh):Prop:=
 match o.op.kd with
 | .call _ true=>(∀h0,qel P b o t h0 v h0)∧h'=h
 | .callv=>(o.g=none∧qAT P o t v h)∧h'=h
 |_=>qel P b o t h v h'
def qbw(P:Program)(b:Nat)(o:RO)(nx:Nx)(t:wi)(h:wh):Prop:= ∃v h',qda P b o t h v h'∧nx (qY t o.dst v) h'
theorem qix{b:Nat}{o:RO}{nx:Nx}{t:wi}{h:wh}(hs:qbw P b o nx t h):stepO P b o nx t h:=by
 obtain⟨v,h',h1,h2⟩:=hs;unfold qda at h1;split at h1
 ·rename_i f hk;exact (kP (by rw[hk];rfl)).2 ⟨v,h',by rw[h1.2];exact h1.1 h,h2⟩
 ·rename_i hk;obtain⟨⟨hg,hf,hc⟩,rfl⟩:=h1;unfold stepO;rw[hg];dsimp only;unfold stepA;rw[hk];dsimp only;refine⟨hf,?_⟩;split at hc
  ·rename_i e;rw[e];exact⟨_,hc.toQ,by rintro _ _ ⟨rfl,rfl⟩;exact h2⟩
  ·exact hc.elim
 ·rename_i hne1 hne2;refine (kP ?_).2 ⟨v,h',h1,h2⟩;cases hk:o.op.kd<;>first|rfl|exact absurd hk hne2
theorem qbx{b:Nat}{o:RO}{nx nx':Nx}(hm: ∀t h,nx t h->nx' t h){t:wi}{h:wh}(hs:qbw P b o nx t h):qbw P b o nx' t h:=by
 obtain⟨v,h',h1,h2⟩:=hs;exact⟨v,h',h1,hm _ _ h2⟩
def qes:Kd->Bool
 | .pure| .pick=>true
 | .call _ p=>p
 |_=>false
def qg3:Kd->Bool
 | .pure| .mem| .pick| .callv=>true
 | .call _ p=>p
 |_=>false
def RO.apart(x y:RO):Bool:=
 match qmC x.op,qmC y.op with
 |some i,some j=>i !=j
 |_,_=>false
def RO.indepD(x y:RO):Bool:=
 ((qg3 x.op.kd&&qg3 y.op.kd)||qes x.op.kd||qes y.op.kd||x.apart y)&&
 (match x.dst with|some d=> !y.looks.contains d&&y.dst !=some d|none=>true)&&
 (match y.dst with|some d=> !x.looks.contains d|none=>true)
theorem qg9{b:Nat}{o:RO}{d:Option Nat}(h: ∀n,d=some n->n∉o.looks){t:wi}{u:AV}{h0:wh}{v:AV}{h':wh}:qda P b o (qY t d u) h0 v h'↔qda P b o t h0 v h':=by
 unfold qda;split
 ·constructor
  ·rintro⟨h1,h2⟩;exact⟨λh0=>(qaX h).1 (h1 h0),h2⟩
  ·rintro⟨h1,h2⟩;exact⟨λh0=>(qaX h).2 (h1 h0),h2⟩
 ·have hx:evs (qY t d u) o.xs=evs t o.xs:=qkK (λn hn e=>h n e (by
   unfold RO.looks
   exact List.mem_append_left _ (List.mem_filterMap.2 ⟨.t n,hn,rfl⟩)))
  unfold qAT;rw[hx]
 ·exact qaX h
theorem qdc{b:Nat}{o:RO}(hq:qg3 o.op.kd=true){t:wi}{h:wh}{v:AV}{h':wh}(hr:qda P b o t h v h'):h'=h:=by
 unfold qda at hr;split at hr
 ·exact hr.2
 ·exact hr.2
 ·rename_i hne1 hne2;refine qbq ?_ hr;revert hq hne2;cases o.op.kd<;>simp[qg3,qg4]
theorem qdb{b:Nat}{o:RO}(hq:qes o.op.kd=true){t:wi}{h h0:wh}{v:AV}{h':wh}(hr:qda P b o t h v h'):h'=h∧qda P b o t h0 v h0:=by
 unfold qda at hr ⊢;split
 ·rename_i f hk;rw[hk]at hr;exact⟨hr.2,hr.1,rfl⟩
 ·rename_i hk;rw[hk]at hq;cases hq
 ·rename_i hne hne2;have hr':qel P b o t h v h':=by
   split at hr
   ·rename_i f hk;exact absurd hk (hne f)
   ·rename_i hk;exact absurd hk hne2
   ·exact hr
  refine qbp ?_ hr';revert hq hne hne2;cases hk:o.op.kd with
  |call f p=>cases p<;>simp[qes,qet]
  |_=>simp[qes,qet]
theorem qeY{b j:Nat}{o:RO}(hj:qmC o.op=some j){t:wi}{h:wh}{v:AV}{h':wh}(hr:qda P b o t h v h'):
  (h'=h∧ ∀h0,qda P b o t h0 v h0)∨ ∃O,h'=qt (b+j) h O∧ ∀h0,qu (b+j) h0=qu (b+j) h->qda P b o t h0 v (qt (b+j) h0 O):=by
 have hk:=quU hj;unfold qda at hr ⊢;rw[hk]at hr ⊢;dsimp only at hr ⊢;unfold qel at hr ⊢;rcases hg:o.g with _|⟨i,want⟩<;>rw[hg]at hr<;>dsimp only at hr ⊢
 ·unfold qvI at hr ⊢;rw[hk]at hr ⊢;dsimp only at hr ⊢;obtain⟨O,h1,h2⟩:=qgG hj hr.2;exact .inr ⟨O,h1,λh0 e=>⟨hr.1,h2 h0 e⟩⟩
 ·obtain⟨hgo,hr⟩:=hr;unfold qvJ at hr ⊢;rw[hk]at hr ⊢;dsimp only at hr ⊢;rcases hr with⟨g1,g2,g3⟩|⟨g1,g2,g3⟩
  ·obtain⟨O,h1,h2⟩:=qgG hj g3;exact .inr ⟨O,h1,λh0 e=>⟨hgo,.inl ⟨g1,g2,h2 h0 e⟩⟩⟩
  ·exact .inl ⟨g3,λh0=>⟨hgo,.inr ⟨g1,g2,rfl⟩⟩⟩
theorem qiz{b:Nat}{x y:RO}(hi:x.indepD y=true){K:Nx}{t:wi}{h:wh}(hs:qbw P b x (qbw P b y K) t h):qbw P b y (qbw P b x K) t h:=by
 simp only[RO.indepD,Bool.and_eq_true,Bool.or_eq_true]at hi;obtain⟨⟨hq,hx⟩,hy⟩:=hi;have hx1: ∀n,x.dst=some n->n∉y.looks:=λn e=>by rw[e]at hx;simp at hx;exact hx.1
 have hx2: ∀n,x.dst=some n->y.dst≠some n:=λn e=>by rw[e]at hx;simp at hx;exact hx.2
 have hy1: ∀n,y.dst=some n->n∉x.looks:=λn e=>by rw[e]at hy;simpa using hy
 obtain⟨v,h1,r1,u,h2,r2,hs⟩:=hs;rw[qg9 hx1]at r2;rw[qeU (λn e e'=>hx2 n e' e)]at hs;have fin: ∀ha,qda P b y t h u ha->qda P b x t ha v h2->qbw P b y (qbw P b x K) t h:=λha g1 g2=>
  ⟨u,ha,g1,v,h2,(qg9 hy1).2 g2,hs⟩
 rcases hq with ((⟨q1,q2⟩|q1)|q2)|q3
 ·have e1:=qdc q1 r1;subst e1;have e2:=qdc q2 r2;subst e2;exact fin _ r2 r1
 ·obtain⟨e1,r1'⟩:=qdb (h0:=h2) q1 r1;subst e1;exact fin _ r2 r1'
 ·obtain⟨e1,r2'⟩:=qdb (h0:=h) q2 r2;subst e1;exact fin _ r2' r1
 ·unfold RO.apart at q3;split at q3
  ·rename_i i j hi hj;have hne:i≠j:=by simpa using q3
   rcases qeY hi r1 with⟨e1,k1⟩|⟨O1,e1,k1⟩
   ·subst e1;exact fin _ r2 (k1 _)
   ·rcases qeY hj r2 with⟨e2,k2⟩|⟨O2,e2,k2⟩
    ·subst e2;exact fin _ (k2 h) r1
    ·subst e1;subst e2;refine fin (qt (b+j) h O2) (k2 h (qaO (by omega)).symm) ?_
     have:=k1 (qt (b+j) h O2) (qaO (by omega))
     rwa [qil (by omega)]at this
  ·cases q3
def qlN(P:Program)(b:Nat)(all:List RO):List Nat->Nx->Nx
 | [],K,t,h=>K t h
 |i::r,K,t,h=>match all[i]? with
  |some o=>qbw P b o (qlN P b all r K) t h
  |none=>qlN P b all r K t h
theorem qlP{b:Nat}{all:List RO}: ∀(L:List Nat) {K:Nx} {t:wi} {h:wh},qlN P b all L K t h->qeS P b all L K t h:=by
 intro L
 induction L with
 |nil=>intro K t h hs;exact hs
 |cons i r ih=>
  intro K t h hs;simp only[qlN]at hs;simp only[qeS];split
  ·rename_i o ho;rw[ho]at hs;exact kB (λt h hh=>ih hh) (qix hs)
  ·rename_i ho;rw[ho]at hs;exact ih hs
theorem qlO{b:Nat}{all:List RO}{K:Nx}{i:Nat}{x:RO}(hx:all[i]? =some x): ∀(A B:List Nat) {t:wi} {h:wh},(∀a∈A,∃y,all[a]? =some y∧x.indepD y=true)->
  qlN P b all (i::(A++B)) K t h->qlN P b all (A++i::B) K t h:=by
 intro A
 induction A with
 |nil=>intro B t h _ hs;exact hs
 |cons a A ih=>
  intro B t h hA hs;obtain⟨y,hy,hxy⟩:=hA a (by simp);simp only[List.cons_append,qlN,hx,hy]at hs ⊢;refine qbx (λt' h' hh=>ih B (λa' ha'=>hA a' (by simp[ha'])) ?_) (qiz hxy hs);simp only[qlN,hx];exact hh
inductive Lin (ops:Array Oper):Array Bool->List Nat->Prop
 |nil {listed} (h:Region.ready .any ops listed= []):Lin ops listed []
 |cons {listed i L} (h:i∈Region.ready .any ops listed) (r:Lin ops (listed.setIfInBounds i true) L):Lin ops listed (i::L)
theorem qcp{ops:Array Oper}{listed:Array Bool}{i:Nat}(hd:qfE ops listed)(hi:i∈Region.ready .any ops listed):qfE ops (listed.setIfInBounds i true):=by
 obtain⟨hun,o,ho,hedges⟩:=mem_ready.1 hi;intro k o' ho' hk e he hb
 by_cases hki:k=i
 ·subst hki;rw[ho]at ho';cases ho';exact getD_set_true (hedges e he hb)
 ·rw[getD_set_ne false (Ne.symm hki)]at hk;exact getD_set_true (hd k o' ho' hk e he hb)
theorem qeX{ops:Array Oper}{listed:Array Bool}{i j:Nat}(hne:i≠j)(hi:i∈Region.ready .any ops listed):i∈Region.ready .any ops (listed.setIfInBounds j true):=by
 obtain⟨hun,o,ho,hedges⟩:=mem_ready.1 hi;refine mem_ready.2 ⟨?_,o,ho,λe he hb=>getD_set_true (hedges e he hb)⟩;rw[getD_set_ne true (Ne.symm hne)];exact hun
theorem qpm{ops:Array Oper}{listed:Array Bool}{L:List Nat}(hl:Lin ops listed L): ∀ {i:Nat},qfE ops listed->i∈Region.ready .any ops listed->
  ∃A B,L=A++i::B∧Lin ops (listed.setIfInBounds i true) (A++B)∧ ∀a∈A,listed.getD a true=false∧a≠i∧ ∀n,qpZ ops n a i=false:=by
 induction hl with
 |nil h=>intro i _ hi;rw[h]at hi;cases hi
 | @cons listed j L hj r ih=>
  intro i hd hi
  by_cases e:j=i
  ·subst e;exact⟨[],L,rfl,r,by simp⟩
  ·obtain⟨A,B,h1,h2,h3⟩:=ih (qcp hd hj) (qeX (λe'=>e e'.symm) hi);refine⟨j::A,B,by rw[h1];rfl,?_,λa ha=> ?_⟩
   ·refine .cons (qeX e hj) ?_
    rwa [Array.setIfInBounds_comm _ _ (λe'=>e e'.symm)]
   ·obtain⟨hun,o,ho,hedges⟩:=mem_ready.1 hj;obtain⟨iun,_⟩:=mem_ready.1 hi;rcases List.mem_cons.1 ha with rfl|ha
    ·refine⟨hun,e,λn=> ?_⟩;rw[Bool.eq_false_iff];intro hr
     have:=qbM hd n a i (λo' ho' e he hb=>by rw[ho]at ho';cases ho';exact hedges e he hb) hr
     by_cases hlt:i<listed.size
     ·simp[hlt]at this iun;rw[iun]at this;cases this
     ·simp[hlt]at this
    ·obtain⟨g1,g2,g3⟩:=h3 a ha
     by_cases ea:j=a
     ·subst ea;exact⟨hun,g2,g3⟩
     ·rw[getD_set_ne true ea]at g1;exact⟨g1,g2,g3⟩
theorem qAj{ops:Array Oper}: ∀(fuel n:Nat) (listed:Array Bool),listed.size=ops.size->(qW ops.size listed).length<=fuel->Lin ops listed (Region.linearise.go .any ops fuel n listed []):=by
 intro fuel
 induction fuel with
 |zero=>
  intro n listed hs hf;have hr:qW ops.size listed= []:=List.eq_nil_of_length_eq_zero (by omega);refine .nil ?_;cases hrd:Region.ready .any ops listed with
  |nil=>rfl
  |cons i r=>
   exfalso;have hi:i∈Region.ready .any ops listed:=by rw[hrd];simp
   obtain⟨hun,o,ho,_⟩:=mem_ready.1 hi;have hilt:i<ops.size:=(Array.getElem?_eq_some_iff.1 ho).1
   have:i∈qW ops.size listed:=by
    unfold qW;rw[List.mem_filter];exact⟨by simp[hilt],by simp only[hun,Bool.not_false]⟩
   rw[hr]at this;cases this
 |succ fuel ih=>
  intro n listed hs hf;simp only[Region.linearise.go];change Lin ops listed (match (Region.ready .any ops listed)[n%(Region.ready .any ops listed).length]? with
   |some i=>Region.linearise.go .any ops fuel (n/(Region.ready .any ops listed).length) (listed.setIfInBounds i true) [i]
   |none=> [].reverse)
  cases hi:(Region.ready .any ops listed)[n%(Region.ready .any ops listed).length]? with
  |none=>
   refine .nil ?_;cases hr:Region.ready .any ops listed with
   |nil=>rfl
   |cons x xs=>
    rw[hr]at hi;have hlt:n%(x::xs).length<(x::xs).length:=Nat.mod_lt _ (by simp);rw[List.getElem?_eq_getElem hlt]at hi;cases hi
  |some i=>
   simp only[];rw[linearise_go_acc,List.reverse_singleton,List.singleton_append];have hrd:i∈Region.ready .any ops listed:=List.mem_of_getElem? hi;obtain⟨hun,o,ho,hedges⟩:=mem_ready.1 hrd;have hilt:i<ops.size:=(Array.getElem?_eq_some_iff.1 ho).1;have hmem:i∈qW ops.size listed:=by
    unfold qW;rw[List.mem_filter];exact⟨by simp[hilt],by simp only[hun,Bool.not_false]⟩
   obtain⟨A,B,hAB⟩:=List.append_of_mem hmem;have hset:=qbr hs hAB;refine .cons hrd (ih _ _ (by simp[hs]) ?_);rw[hset];rw[hAB]at hf;simp at hf ⊢;omega
def qc2(o:RO):Bool:=match o.op,o.g with| .call _ true,_=>true| .callv,none=>true|_,_=>false
def opT(all:List RO)(i:Nat)(r:DT):DT:=
 match all[i]? with
 |some o=>if qc2 o then .uni o r else .one o r
 |none=>r
def qrL(all:List RO)(i j:Nat):Bool:=
 match all[i]?,all[j]? with
 |some x,some y=>x.indepD y
 |_,_=>false
def qzV(ops:Array Oper)(all:List RO)(listed:Array Bool)(i:Nat):Bool:=
 (qW ops.size listed).all λj=>j==i||(qpZ ops ops.size j i||qrL all i j)
def qsd:List DT->DT
 | []=> .nil
 | [x]=>x
 |x::y::r=> .two x (qsd (y::r))
def mkT(ops:Array Oper)(all:List RO):Nat->Array Bool->DT
 |0,_=> .nil
 |n+1,listed=>
  match Region.ready .any ops listed with
  | []=> .nil
  |i0::rs=>
   match (i0::rs).find? (qzV ops all listed)with
   |some i=>opT all i (mkT ops all n (listed.setIfInBounds i true))
   |none=>qsd ((i0::rs).map λi=>opT all i (mkT ops all n (listed.setIfInBounds i true)))
def qdF(all:List RO):Bool:=all.all λo=> !qbk o.op.kd||o.g.isNone
theorem quY{b:Nat}{o:RO}(hd:qc2 o=true){nx:Nx}{t:wi}{h:wh}(hs:qmT P o nx t h):qbw P b o nx t h:=by
 unfold qc2 at hd;split at hd
 ·rename_i _ f hop;have hk:o.op.kd= .call f true:=by rw[hop];rfl
  unfold qmT at hs;rw[hop]at hs;rcases hg:o.g with _|⟨j,want⟩<;>rw[hg]at hs<;>dsimp only at hs
  ·obtain⟨h1,v,h2,h3⟩:=hs;refine⟨v,h,?_,h3⟩;unfold qda;rw[hk];refine⟨λh0=> ?_,rfl⟩;unfold qel qvI;rw[hg,hk];exact⟨h1,h2 h0,λ_=>rfl⟩
  ·obtain⟨h0,v,h2,h3⟩:=hs;refine⟨_,h,?_,h3⟩;unfold qda;rw[hk];refine⟨λhh=> ?_,rfl⟩;unfold qel qvJ;rw[hg,hk];exact⟨h0,v,λe=>⟨(h2 e).1,(h2 e).2 hh,λ_=>rfl⟩,λ_=>rfl,rfl⟩
 ·rename_i hop hg;have hk:o.op.kd= .callv:=by rw[hop];rfl
  unfold qmT at hs;rw[hop,hg]at hs;dsimp only at hs;obtain⟨h1,h2⟩:=hs;split at h2
  ·rename_i e;obtain⟨v,h3,h4⟩:=h2;refine⟨v,h,?_,h4⟩;unfold qda;rw[hk];refine⟨⟨hg,h1,?_⟩,rfl⟩;rw[e];exact h3
  ·exact h2.elim
 ·cases hd
theorem qDS{b:Nat}{o:RO}(hc:qbk o.op.kd=false)(hd:qc2 o=false){nx:Nx}{t:wi}{h:wh}(hs:stepO P b o nx t h):qbw P b o nx t h:=by
 obtain⟨v,h',h1,h2⟩:=(kP hc).1 hs;refine⟨v,h',?_,h2⟩;unfold qda;split
 ·rename_i f hk;exfalso;unfold qc2 at hd;split at hd
  ·cases hd
  ·cases hd
  ·rename_i hne _;cases ho:o.op<;>rw[ho]at hk<;>first|cases hk|skip
   exact hne _ ho
 ·rename_i hk;rw[hk]at hc;cases hc
 ·exact h1
theorem qmo{b:Nat}: ∀(d:DT) {K K':Nx} {t:wi} {h:wh},(∀t h,K t h->K' t h)->qbV P b d K t h->qbV P b d K' t h:=by
 intro d
 induction d with
 |nil=>intro K K' t h hm hs;exact hm _ _ hs
 |one o r ih=>intro K K' t h hm hs;exact kB (λt h hh=>ih hm hh) hs
 |uni o r ih=>
  intro K K' t h hm hs;simp only[qbV,qmT]at hs ⊢;split
  ·rename_i h1 h2;rw[h1,h2]at hs;obtain⟨g1,v,g2,g3⟩:=hs;exact⟨g1,v,g2,ih hm g3⟩
  ·rename_i h1 h2;rw[h1,h2]at hs;obtain⟨g0,v,g2,g3⟩:=hs;exact⟨g0,v,g2,ih hm g3⟩
  ·rename_i h1 h2;rw[h1,h2]at hs;obtain⟨g0,g1⟩:=hs;refine⟨g0,?_⟩;split at g1
   ·rename_i e;obtain⟨v,g2,g3⟩:=g1;exact⟨v,g2,ih hm g3⟩
   ·exact g1.elim
  ·rename_i h1 h2 h3;split at hs
   ·rename_i e1 e2;exact (h1 _ _ e1 e2).elim
   ·rename_i e1 e2;exact (h2 _ _ _ _ e1 e2).elim
   ·rename_i e1 e2;exact (h3 e1 e2).elim
   ·exact hs
 |two x y ihx ihy=>intro K K' t h hm hs;exact⟨ihx hm hs.1,ihy hm hs.2⟩
theorem qAw{b:Nat}{all:List RO}(hn:qdF all=true){i:Nat}{o:RO}(ho:all[i]? =some o){r:DT}{K:Nx}{t:wi}{h:wh}(hs:qbV P b (opT all i r) K t h):qbw P b o (qbV P b r K) t h:=by
 have hc:=List.all_eq_true.1 hn o (List.mem_of_getElem? ho);unfold opT at hs;rw[ho]at hs;dsimp only at hs;split at hs
 ·rename_i hd;exact quY hd hs
 ·rename_i hd;refine qDS ?_ (by simpa using hd) hs;cases hk:qbk o.op.kd with
  |false=>rfl
  |true=>
   exfalso;rw[hk]at hc;have hg:o.g=none:=by simpa using hc
   have hop:o.op= .callv:=by
    cases ho:o.op<;>rw[ho]at hk<;>first|rfl|cases hk
   apply hd;unfold qc2;rw[hop,hg]
theorem qnW{b:Nat}{K:Nx}{t:wi}{h:wh}: ∀ {l:List DT},qbV P b (qsd l) K t h-> ∀d∈l,qbV P b d K t h:=by
 intro l
 induction l with
 |nil=>intro _ d hd;cases hd
 |cons x l ih=>
  intro hs d hd;cases l with
  |nil=>
   simp at hd;subst hd;exact hs
  |cons y r=>
   rcases List.mem_cons.1 hd with rfl|hd
   ·exact hs.1
   ·exact ih hs.2 d hd
theorem wm{ops:Array Oper}{listed:Array Bool}{i:Nat}(h:i∈Region.ready .any ops listed):i∈qW ops.size listed∧i<ops.size:=by
 obtain⟨hun,o,ho,_⟩:=mem_ready.1 h;have hilt:i<ops.size:=(Array.getElem?_eq_some_iff.1 ho).1;refine⟨?_,hilt⟩;unfold qW;rw[List.mem_filter];exact⟨by simp[hilt],by simp only[hun,Bool.not_false]⟩
theorem qiK{b:Nat}{ops:Array Oper}{all:List RO}{K:Nx}(hn:qdF all=true)(hlen:all.length=ops.size): ∀(fuel:Nat) (listed:Array Bool) (L:List Nat) {t:wi} {h:wh},listed.size=ops.size->Lin ops listed L->qfE ops listed->(qW ops.size listed).length<=fuel->
  qbV P b (mkT ops all fuel listed) K t h->qlN P b all L K t h:=by
 intro fuel
 induction fuel with
 |zero=>
  intro listed L t h hsz hl hd hf hs;cases hl with
  |nil _=>exact hs
  |cons hi r=>
   exfalso
   have:=(wm hi).1
   rw[List.eq_nil_of_length_eq_zero (show (qW ops.size listed).length=0 by omega)]at this;cases this
 |succ fuel ih=>
  intro listed L t h hsz hl hd hf hs;have next: ∀(i:Nat),i∈Region.ready .any ops listed->(qW ops.size (listed.setIfInBounds i true)).length<=fuel:=by
   intro i hi;obtain⟨A,B,hAB⟩:=List.append_of_mem (wm hi).1;rw[qbr hsz hAB];rw[hAB]at hf;simp at hf ⊢;omega
  unfold mkT at hs;cases hrd:Region.ready .any ops listed with
  |nil=>
   rw[hrd]at hs;cases hl with
   |nil _=>exact hs
   |cons hi r=>rw[hrd]at hi;cases hi
  |cons i0 rs=>
   rw[hrd]at hs;dsimp only at hs;cases hfd:(i0::rs).find? (qzV ops all listed)with
   |some i=>
    rw[hfd]at hs;dsimp only at hs;have hi:i∈Region.ready .any ops listed:=by rw[hrd];exact List.mem_of_find?_eq_some hfd
    have hfr:=List.find?_some hfd;have hilt:=(wm hi).2;have ho:all[i]? =some all[i]:=List.getElem?_eq_getElem (by omega);obtain⟨A,B,e,hlin,hA⟩:=qpm hl hd hi;subst e;refine qlO ho A B (λa ha=> ?_) ?_
    ·obtain⟨g1,g2,g3⟩:=hA a ha;have hal:a<listed.size:=by
      apply Classical.byContradiction;intro hc;simp[hc]at g1
     have hin:a∈qW ops.size listed:=by
      unfold qW;rw[List.mem_filter];exact⟨by simp;omega,by simp only[g1,Bool.not_false]⟩
     have:=List.all_eq_true.1 hfr a hin
     simp only[g3,Bool.false_or,Bool.or_eq_true,beq_iff_eq,g2,false_or]at this;have hoa:all[a]? =some all[a]:=List.getElem?_eq_getElem (by omega);unfold qrL at this;rw[ho,hoa]at this;exact⟨_,hoa,this⟩
    ·simp only[qlN,ho];refine qbx (λt' h' hh=> ?_) (qAw hn ho hs);exact ih _ _ (by simp[hsz]) hlin (qcp hd hi) (next i hi) hh
   |none=>
    rw[hfd]at hs;dsimp only at hs;cases hl with
    |nil h0=>rw[hrd]at h0;cases h0
    | @cons _ i L' hi r=>
     have hilt:=(wm hi).2;have ho:all[i]? =some all[i]:=List.getElem?_eq_getElem (by omega);have hm:=qnW hs (opT all i (mkT ops all fuel (listed.setIfInBounds i true))) (List.mem_map.2 ⟨i,by rw[<-hrd];exact hi,rfl⟩);simp only[qlN,ho];refine qbx (λt' h' hh=> ?_) (qAw hn ho hm);exact ih _ _ (by simp[hsz]) r (qcp hd hi) (next i hi) hh
end
end AF
end
section
namespace AF
open Go
def cv(P:Program)(js:List Tmp)(imp:List FuncId)(wks:List Nat):Code->Option C
 | .skip=>some .skip
 | .region id ops draw=>match qhI P js imp ops ops.toList with
  |some l=>if draw&& !(qkG ops l&&P.follows .mixedOrders) then (if P.follows .mixedOrders&&qdF l then (if wks.contains id then some (.seq .wk (.draw (mkT ops l ops.size (Array.replicate ops.size false)))) else some (.draw (mkT ops l ops.size (Array.replicate ops.size false)))) else some .bad) else if wks.contains id then some (.seq .wk (.ops l)) else some (.ops l)
  |none=>some .bad
 | .seq a b=>match cv P js imp wks a,cv P js imp wks b with
  |some x,some y=>some (.seq x y)
  |_,_=>some .bad
 | .cond c a b=>match cvX c,cv P js imp wks a,cv P js imp wks b with
  |some u,some x,some y=>some (.cond u x y)
  |_,_,_=>some .bad
 | .block id a=>(cv P js imp wks a).map (.block id)
 | .loop a=>(cv P js imp wks a).map .loop
 | .rangeFunc f ps a b=>match cvX f,cv P js imp wks a,cv P js imp wks b with
  |some u,some x,some y=>some (.range u ps.toList x y)
  |_,_,_=>some .bad
 | .exit id=>some (.exit id)
 | .ret=>some .ret
 |_=>some .bad
section
variable {P : Program} {js : List Tmp} {imp : List FuncId} {N : Nat}
theorem qc1{all:Array Oper}: ∀ {l:List Oper} {r:List RO},qhI P js imp all l=some r->r.length=l.length∧ ∀(i:Nat) o ro,l[i]? =some o->r[i]? =some ro->qs4 P js imp all o=some ro:=by
 intro l
 induction l with
 |nil=>intro r h;cases h;exact⟨rfl,λi o ro h=>by simp at h⟩
 |cons o l ih=>
  intro r h;simp only[qhI]at h;split at h
  ·rename_i a r' ha hr;cases h;obtain⟨h1,h2⟩:=ih hr;refine⟨by simp[h1],λi o' ro ho hro=> ?_⟩;cases i with
   |zero=>simp at ho hro;subst ho hro;exact ha
   |succ i=>exact h2 i o' ro (by simpa using ho) (by simpa using hro)
  ·cases h
def qFE:Exit->Option Ex
 | .normal=>some .normal
 | .exit id=>some (.exit id)
 | .ret=>some .ret
 |_=>none
def qnQ(N:Nat)(w:World)(σ:List OB)(Q:Ex->Nx)(e:Exit)(a:Act)(w':World):Prop:=
 ∃x σ' t h,qFE e=some x∧SR N w' σ' t h a∧Ext w σ w' σ'∧Q x t h
theorem qnQ.trans{w w':World}{σ σ':List OB}{Q:Ex->Nx}{e:Exit}{a:Act}{w'':World}(h:Ext w σ w' σ')(hp:qnQ N w' σ' Q e a w''):qnQ N w σ Q e a w'':=by
 obtain⟨x,σ'',t,hh,h1,h2,h3,h4⟩:=hp;exact⟨x,σ'',t,hh,h1,h2,h.trans h3,h4⟩
def kt(P:Program)(b:Nat)(c:C)(k:Code):Prop:=
 ∀(N:Nat) (ρ:Option Nat) (Q:Ex->Nx) (w:World) (σ:List OB) (t:wi) (h:wh) (a:Act),ze P b c Q t h->(∀l,ρ=some l-> ∃r,w.heap[l]? =some (.loop r))->SR N w σ t h a->k.wpIn (FW ρ) 0 P (qnQ N w σ Q) a w
theorem qdw(w:World)(σ:List OB):Ext w σ { w with drawn:=w.drawn+1 } σ:=⟨rfl,rfl,rfl,Nat.le_refl _,λ_ _ _=>rfl,λ_ h=> .inl h,λ_ o h=>⟨o,h,Nat.le_refl _,λ_=>rfl⟩,λ_ r h=>⟨r,h⟩⟩
theorem SR.drew{w:World}{σ:List OB}{t:wi}{h:wh}{a:Act}(H:SR N w σ t h a):SR N { w with drawn:=w.drawn+1 } σ t h a:=by
 have e:=qdw w σ;refine⟨⟨H.hr.len,H.hr.inj,H.hr.lt,λk a o ha ho=>(H.hr.obj k a o ha ho).ext e (λb _=>rfl)⟩,H.sz,λi c x hc hx=>(H.tm i c x hc hx).ext e,H.df⟩
theorem qe7{id:Nat}{ops:Array Oper}{draw:Bool}{l:List RO}(hl:qhI P js imp ops ops.toList=some l)(hd:draw=true->qkG ops l=true∧P.follows .mixedOrders=true)(b:Nat):kt P b (.ops l) (.region id ops draw):=by
 intro N ρ Q w σ t h a hc hρ H;obtain⟨h1,h2⟩:=qc1 hl;have hlen:l.length=ops.size:=by simpa using h1
 have hall: ∀(i:Nat) o ro,ops[i]? =some o->l[i]? =some ro->qs4 P js imp ops o=some ro:=λi o ro ho hro=>h2 i o ro (by simpa using ho) hro
 have hN:qeS P b l (List.range ops.size) (Q .normal) t h:=by
  have:=qic (P:=P) b (Q .normal) [] l t h hc
  simpa[hlen] using this
 cases draw with
 |false=>
  refine wpIn_region ?_;exact qbl hlen hall _ hN H (λa' w' σ' t' h' g1 g2 g3=>⟨.normal,σ',t',h',rfl,g1,g2,g3⟩)
 |true=>
  obtain⟨d1,d2⟩:=hd rfl;refine wpIn_region_draw λn=> ?_
  simp only[Region.schedule,d2,Bool.true_or,if_true];have hrem:qW ops.size (Array.replicate ops.size false)=List.range ops.size:=by
   unfold qW;apply List.filter_eq_self.2;intro i hi
   have:i<ops.size:=by simpa using hi
   simp[this]
  have:=qoE (P:=P) (b:=b) (K:=Q .normal) d1 hlen ops.size n (Array.replicate ops.size false) (t:=t) (h:=h) (by simp) (by
   intro k o _ hk;exfalso
   by_cases hlt:k<ops.size
   ·simp[hlt]at hk
   ·simp[hlt]at hk) (by rw[hrem];simp) (by rw[hrem];exact hN)
  exact qbl hlen hall _ this H.drew (λa' w' σ' t' h' g1 g2 g3=>⟨.normal,σ',t',h',rfl,g1,(qdw w σ).trans g2,g3⟩)
theorem qdj{id:Nat}{ops:Array Oper}{l:List RO}(hl:qhI P js imp ops ops.toList=some l)(hf:P.follows .mixedOrders=true)(hn:qdF l=true)(b:Nat):kt P b (.draw (mkT ops l ops.size (Array.replicate ops.size false))) (.region id ops true):=by
 intro N ρ Q w σ t h a hc hρ H;obtain⟨M,hc,hM⟩:=(show∃M:Nx,qbV P b (mkT ops l ops.size (Array.replicate ops.size false)) M t h∧ ∀t' h',M t' h'->Q .normal t' h' from hc)
 have hc:=qmo _ hM hc;obtain⟨h1,h2⟩:=qc1 hl;have hlen:l.length=ops.size:=by simpa using h1
 have hall: ∀(i:Nat) o ro,ops[i]? =some o->l[i]? =some ro->qs4 P js imp ops o=some ro:=λi o ro ho hro=>h2 i o ro (by simpa using ho) hro
 refine wpIn_region_draw λn=> ?_
 simp only[Region.schedule,hf,Bool.true_or,if_true];have hrem:(qW ops.size (Array.replicate ops.size false)).length<=ops.size:=by
  unfold qW
  have:=List.length_filter_le (λi=> !(Array.replicate ops.size false).getD i true) (List.range ops.size)
  simpa using this
 have hlin:=qAj (ops:=ops) ops.size n (Array.replicate ops.size false) (by simp) hrem
 have:=qlP _ (qiK (P:=P) (b:=b) hn hlen ops.size _ _ (by simp) hlin (by
  intro k o _ hk;exfalso
  by_cases hlt:k<ops.size
  ·simp[hlt]at hk
  ·simp[hlt]at hk) hrem hc)
 exact qbl hlen hall _ this H.drew (λa' w' σ' t' h' g1 g2 g3=>⟨.normal,σ',t',h',rfl,g1,(qdw w σ).trans g2,g3⟩)
theorem qmO{b:Nat}{x y:C}{k l:Code}(hx:kt P b x k)(hy:kt P b y l):kt P b (.seq x y) (.seq k l):=by
 intro N ρ Q w σ t h a hc hρ H;refine wpIn_seq (wpIn_mono (hx N ρ _ w σ t h a hc hρ H) ?_);rintro e a' w' ⟨z,σ',t',h',he,g1,g2,g3⟩;cases e with
 |normal=>
  cases he;exact wpIn_mono (hy N ρ Q w' σ' t' h' a' g3 (λl hl=>(hρ l hl).elim λr hr=>g2.loops l r hr) g1) (λe a'' w'' hp=>hp.trans g2)
 |exit id=>cases he;exact⟨_,σ',t',h',rfl,g1,g2,g3⟩
 |ret=>cases he;exact⟨_,σ',t',h',rfl,g1,g2,g3⟩
 |goto l=>cases he
 |panic c=>cases he
 |outgrown=>cases he
theorem qit{b:Nat}{o:Operand}{c:X}{x y:C}{k l:Code}(ho:cvX o=some c)(hx:kt P b x k)(hy:kt P b y l):kt P b (.cond c x y) (.cond o k l):=by
 intro N ρ Q w σ t h a hc hρ H;have hv:=qkD H.sz H.tm ho;have hc':qfD (ev t c) (ze P b x Q) (ze P b y Q) t h:=hc;unfold qfD at hc';split at hc'
 ·rename_i bb he;rw[he]at hv
  have:=jT hv
  cases bb with
  |true=>exact wpIn_cond_true this (hx N ρ Q w σ t h a (hc'.1 rfl) hρ H)
  |false=>exact wpIn_cond_false this (hy N ρ Q w σ t h a (hc'.2 rfl) hρ H)
 ·rename_i he;rw[he]at hv;obtain⟨bb,this⟩:=qnA hv;cases bb with
  |true=>exact wpIn_cond_true this (hx N ρ Q w σ t h a hc'.1 hρ H)
  |false=>exact wpIn_cond_false this (hy N ρ Q w σ t h a hc'.2 hρ H)
 ·exact hc'.elim
theorem qf3{b id:Nat}{x:C}{k:Code}(hx:kt P b x k):kt P b (.block id x) (.block id k):=by
 intro N ρ Q w σ t h a hc hρ H;refine wpIn_block (wpIn_mono (hx N ρ _ w σ t h a hc hρ H) ?_);rintro e a' w' ⟨z,σ',t',h',he,g1,g2,g3⟩;cases e with
 |normal=>cases he;exact⟨_,σ',t',h',rfl,g1,g2,g3⟩
 |exit i=>
  cases he;simp only[Exit.inBlock];simp only[Ex.inBlock]at g3;split
  ·rename_i hi;rw[if_pos hi]at g3;exact⟨_,σ',t',h',rfl,g1,g2,g3⟩
  ·rename_i hi;rw[if_neg hi]at g3;exact⟨_,σ',t',h',rfl,g1,g2,g3⟩
 |ret=>cases he;exact⟨_,σ',t',h',rfl,g1,g2,g3⟩
 |goto l=>cases he
 |panic c=>cases he
 |outgrown=>cases he
theorem qiv{b:Nat}{x:C}{k:Code}(hx:kt P b x k):kt P b (.loop x) (.loop k):=by
 intro N ρ Q w σ t h a hc hρ H;have hc':qAl (λK=>ze P b x (Ex.andThen K Q)) t h:=hc;obtain⟨I,⟨n,t0,h0,hw,hI⟩,hround⟩:=hc';obtain⟨σ0,H0,e0⟩:=hw N w σ a H;refine wpIn_loop_ghost (λn a' w'=> ∃σ' t' h',I n t' h'∧SR N w' σ' t' h' a'∧Ext w σ w' σ') n ⟨σ0,t0,h0,hI,H0,e0⟩ ?_;rintro n a' w' ⟨σ',t',h',g1,g2,g3⟩;refine wpIn_mono (hx N ρ _ w' σ' t' h' a' (hround n t' h' g1) (λl hl=>(hρ l hl).elim λr hr=>g3.loops l r hr) g2) ?_;rintro e a'' w'' ⟨z,σ'',t'',h'',he,q1,q2,q3⟩;cases e with
 |normal=>
  cases he;obtain⟨n',t1,h1,hlt,hwk,hI'⟩:=q3;obtain⟨σ1,H1,e1⟩:=hwk N w'' σ'' a'' q1;exact⟨n',hlt,σ1,t1,h1,hI',H1,(g3.trans q2).trans e1⟩
 |exit id=>cases he;exact⟨_,σ'',t'',h'',rfl,q1,g3.trans q2,q3⟩
 |ret=>cases he;exact⟨_,σ'',t'',h'',rfl,q1,g3.trans q2,q3⟩
 |goto l=>cases he
 |panic c=>cases he
 |outgrown=>cases he
theorem gO{b:Nat}{k:Code}:kt P b .bad k:=λ_ _ _ _ _ _ _ _ hc=>(show False from hc).elim
theorem qiw{b:Nat}:kt P b .skip .skip:=by
 intro N ρ Q w σ t h a hc hρ H;exact wpIn_skip ⟨.normal,σ,t,h,rfl,H,Ext.refl w σ,hc⟩
theorem qiu{b id:Nat}:kt P b (.exit id) (.exit id):=by
 intro N ρ Q w σ t h a hc hρ H;exact wpIn_exit ⟨.exit id,σ,t,h,rfl,H,Ext.refl w σ,hc⟩
theorem qmN{b:Nat}:kt P b .ret .ret:=by
 intro N ρ Q w σ t h a hc hρ H;exact wpIn_ret ⟨.ret,σ,t,h,rfl,H,Ext.refl w σ,hc⟩
theorem qhe{b:Nat}{x:C}{k:Code}(hx:kt P b x k):kt P b (.seq .wk x) k:=by
 intro N ρ Q w σ t h a hc hρ H;obtain⟨t',h',hw,hc'⟩:=(show∃t' h',Wk t h t' h'∧ze P b x Q t' h' from hc)
 obtain⟨σ',H',e⟩:=hw N w σ a H;exact wpIn_mono (hx N ρ Q w σ' t' h' a hc' hρ H') (λe' a' w' hp=>hp.trans e)
end
end AF
end
section
namespace AF
open Go
theorem kJ{P:Program}{w:World}{l:Nat}{r:Loop}(h:w.heap[l]? =some (.loop r)):(Instr.getLoop l).run P w= .ok r w:=by
 simp[Instr.getLoop,getObj,Sem.run_bind,Sem.run,h,Result.andThen]
def jk(w:World)(l:Nat)(r:Loop):World:= { w with heap:=w.heap.setIfInBounds l (.loop r) }
theorem qat{P:Program}{w:World}{l:Nat}{r:Loop}(r':Loop)(h:w.heap[l]? =some (.loop r)):(setObj l (.loop r')).run P w= .ok () (jk w l r'):=by
 simp[setObj,Sem.run,h,jk]
theorem qcM{P:Program}{w:World}{l:Nat}{r:Loop}(h:w.heap[l]? =some (.loop r))(hr:r.state= .ready):(Instr.beginRound l).run P w= .ok () (jk w l { r with state:= .busy }):=by
 simp[Instr.beginRound,Sem.run_bind,kJ h,qat _ h,Result.andThen,hr]
theorem qe0{P:Program}{w:World}{l:Nat}{r:Loop}(j:Option Code)(h:w.heap[l]? =some (.loop r)):
  (Instr.endRound l j).run P w= .ok (.bool j.isNone) (jk w l { r with state:=if j.isNone then .ready else .done,pending:=j }):=by
 simp[Instr.endRound,Sem.run_bind,kJ h,qat _ h,Result.andThen]
theorem qfW{P:Program}{w:World}{l:Nat}{r:Loop}(h:w.heap[l]? =some (.loop r))(hr:r.state≠ .busy):
  (Instr.endLoop l).run P w= .ok r.pending (jk w l { r with state:= .exhausted }):=by
 have:(r.state== .busy)=false:=by
  cases hs:r.state<;>first|rfl|exact absurd hs hr
 simp[Instr.endLoop,Sem.run_bind,kJ h,qat _ h,Result.andThen,hr]
theorem kZ{w:World}{l:Nat}{r r':Loop}(h:w.heap[l]? =some (.loop r)):(jk w l r').heap[l]? =some (.loop r'):=by
 have:=(Array.getElem?_eq_some_iff.1 h).1
 simp[jk,this]
theorem qaR(w:World)(l:Nat)(r:Loop):w.grownBy (jk w l r) (some l):=
 ⟨rfl,rfl,rfl,by simp[jk],λk _ hk=>by
  simp only[jk,Array.getElem?_setIfInBounds]
  rw[if_neg (λe=>hk (by rw[e]))]⟩
theorem qqg{α:Type}{l:List α}{k:Nat}{x:α}(h:l[k]? =some x):l.set k x=l:=by
 apply List.ext_getElem?;intro i;rw[List.getElem?_set];split
 ·rename_i e;subst e;rw[h];simp[(List.getElem?_eq_some_iff.1 h).1]
 ·rfl
theorem HR.lpset{w:World}{σ:List OB}{h:wh}(H:HR w σ h){k:Nat}{o:OB}(hk:σ[k]? =some o){s s':LS}{ts:wi}{L:LInfo}(ha:h[k]? =some (.lp s ts L)){l:Nat}(hb:o.blk=some l){r r':Loop}(hl:w.heap[l]? =some (.loop r))
  (e1:r'.params=r.params) (e2:r'.assign=r.assign) (e3:r'.body=r.body) (e4:r'.tmps=r.tmps) (hs:qDI s' r'):
  HR (jk w l r') σ (h.set k (.lp s' ts L))∧Ext w σ (jk w l r') σ:=by
 obtain⟨g0,b,r0,g1,g2,g3,g4,g5,g6,g7,g8⟩:=H.obj k _ o ha hk;rw[hb]at g1;cases g1;rw[hl]at g2;cases g2;have hlt:=(Array.getElem?_eq_some_iff.1 hl).1
 have:=H.update (w':=jk w l r') (o':=o) (a':= .lp s' ts L) hk (by rw[hb];exact qaR w l r') (Nat.le_refl _) (λ_=>rfl)
  (by intro b hb';rw[hb]at hb';cases hb';exact⟨.inl hb,by simpa[jk] using hlt⟩)
  (by intro b r1 hb' _;rw[hb]at hb';cases hb';exact⟨r',kZ hl⟩)
  (λe=>⟨g0,l,r',hb,kZ hl,hs,by rw[e1,g4],by rw[e2,g5],by rw[e3,g6],by rw[e4,g7],λi c x hc hx=>(g8 i c x hc (by rw[<-e4];exact hx)).ext e⟩)
 rw[qqg hk]at this;exact this
theorem qmz{w:World}{σ:List OB}: ∀(ps:List Nat) (vs:wi) (xs:List Value) (ts:wi) (tm:Array Value),tm.size=ts.length->
  (∀(i:Nat) c x,ts[i]? =some c->tm[i]? =some x->VR w σ c x)->VRs w σ vs xs->ps.length=vs.length->
  ((ps.zip xs).foldl (λtm p=>tm.setIfInBounds p.1 p.2) tm).size=(kN ts ps vs).length∧
  ∀(i:Nat) c x,(kN ts ps vs)[i]? =some c->((ps.zip xs).foldl (λtm p=>tm.setIfInBounds p.1 p.2) tm)[i]? =some x->VR w σ c x:=by
 intro ps
 induction ps with
 |nil=>intro vs xs ts tm h1 h2 h3 h4;cases vs<;>exact⟨h1,h2⟩
 |cons p ps ih=>
  intro vs xs ts tm h1 h2 h3 h4;cases vs with
  |nil=>simp at h4
  |cons v vs=>
   obtain⟨x,rest,rfl,hx,hr⟩:=h3.cons;simp only[List.zip_cons_cons,List.foldl_cons,kN];refine ih vs rest (jv p ts v) (tm.setIfInBounds p x) (by simp[UA,h1]) (λi c y hc hy=> ?_) hr (by simpa using h4);rw[qaZ]at hc;rw[Array.getElem?_setIfInBounds]at hy;split at hc
   ·rename_i hi;obtain⟨rfl,hlt⟩:=hi;cases hc;rw[if_pos rfl,if_pos (by omega)]at hy;cases hy;exact hx
   ·rename_i hi;split at hy
    ·rename_i hd;subst hd;split at hy
     ·exact absurd ⟨rfl,by omega⟩ hi
     ·cases hy
    ·exact h2 i c y hc hy
section
variable {P : Program} {b : Nat} {x y : C} {L : LInfo}
theorem qgr(hA:kt P b x L.asg)(hB:kt P b y L.body){k:Nat}{ts args:wi}{h1:wh}{R:AV->wh->Prop}(hk:qu k h1=some (.lp .ready ts L))(hlen:args.length=L.ps.toList.length)
  (hw:ze P b x (λe t2 h2=>e= .normal∧(∃ts',qu k h2=some (.lp .ready ts' L))∧ ∀ts',qu k h2=some (.lp .ready ts' L)->
    ze P b y (λe t3 h3=> ∃ts3,qu k h3=some (.lp .busy ts3 L)∧
     match e with
     | .normal=>R (.bool true) (qt k h3 (.lp .ready ts3 L))
     | .ret=>R (.bool false) (qt k h3 (.lp .ret ts3 L))
     | .exit id=>R (.bool false) (qt k h3 (.lp (.exit id) ts3 L))) t2 (qt k h2 (.lp .busy ts' L))) (kN ts L.ps.toList args) h1):kr P k args h1 R:=by
 intro w σ xs l H hv ho;obtain⟨o,ho,hv0,hl⟩:=ho;obtain⟨g0,l',r,g1,g2,g3,g4,g5,g6,g7,g8⟩:=H.obj k _ o hk ho;rw[hl]at g1;cases g1;have hxs:xs.length=args.length:=hv.1;refine⟨r.fn,(r.params.zip xs.toArray).foldl (λtmps p=>tmps.setIfInBounds p.1 p.2) r.tmps,L.asg,L.body,?_,roundIn_of_wpIn (F:=Fence.wide) trivial ?_⟩
 ·have:xs.toArray.size=r.params.size:=by rw[g4];simp[hxs,hlen]
  simp[Instr.yield,Sem.run_bind,kJ g2,Result.andThen,this,g5,g6]
 ·have hset:=qmz L.ps.toList args xs ts r.tmps g7 g8 hv hlen.symm;have hfold:(r.params.zip xs.toArray).foldl (λtmps p=>tmps.setIfInBounds p.1 p.2) r.tmps=(L.ps.toList.zip xs).foldl (λtm p=>tm.setIfInBounds p.1 p.2) r.tmps:=by
   rw[<-Array.foldl_toList,g4];simp
  rw[hfold];have hrnd: ∀l',some l=some l'-> ∃r,w.heap[l']? =some (.loop r):=by rintro l' ⟨⟩;exact⟨r,g2⟩
  refine wpIn_mono (hA 0 (some l) _ w σ _ h1 _ hw hrnd ⟨H,hset.1,hset.2,⟨[],rfl,.nil,Nat.zero_le _,by simp⟩⟩) ?_;rintro e a' w' ⟨z,σ',t2,h2,he,q1,q2,rfl,⟨ts',hts'⟩,q4⟩;cases e with
  |normal=>
   show∃w₂,(Instr.beginRound l).run P w'= .ok () w₂∧_;obtain⟨o',p1,p2,p3⟩:=q2.obj k o ho;obtain⟨r0,l2,r2,r3,r4,r5,r6,r7,r8,r9,r10⟩:=q1.hr.obj k _ o' hts' p1
   have:=p3 (by rw[r0,hv0])
   subst this;rw[hl]at r3;cases r3;refine⟨_,qcM r4 r5.1,?_⟩;obtain⟨u1,u2⟩:=q1.hr.lpset p1 hts' hl r4 (r':= { r2 with state:= .busy }) rfl rfl rfl rfl (s':= .busy) rfl;have hrnd': ∀l',some l=some l'-> ∃r,(jk w' l { r2 with state:= .busy }).heap[l']? =some (.loop r):=by rintro l' ⟨⟩;exact⟨_,kZ r4⟩
   refine wpIn_mono (hB 0 (some l) _ _ σ' t2 _ a' (q4 ts' hts') hrnd' ⟨u1,q1.sz,λi c x hc hx=>(q1.tm i c x hc hx).ext u2,qaH u2 q1.df⟩) ?_;rintro e a'' w'' ⟨z,σ'',t3,h3,he3,s1,s2,ts3,s3,s4⟩;have hend: ∀(j:Option Code) (s':LS),(∀rr:Loop,qDI s' { rr with state:=if j.isNone then .ready else .done,pending:=j })->R (.bool j.isNone) (qt k h3 (.lp s' ts3 L))->
     ∃v w3,(Instr.endRound l j).run P w''= .ok v w3∧ ∃r1 σ1 h',(Ending.returned v= .returned (.bool r1)∧HR w3 σ1 h'∧Ext w σ w3 σ1∧R (.bool r1) h'):=by
    intro j s' hs' hR;obtain⟨o'',v1,v2,v3⟩:=s2.obj k _ p1;obtain⟨m0,l2,m2,m3,m4,m5,m6,m7,m8,m9,m10⟩:=s1.hr.obj k _ o'' s3 v1
    have:=v3 (by rw[m0,r0])
    subst this;rw[hl]at m3;cases m3;obtain⟨n1,n2⟩:=s1.hr.lpset v1 s3 hl m4 (r':= { m2 with state:=if j.isNone then .ready else .done,pending:=j }) rfl rfl rfl rfl (s':=s') (hs' m2);exact⟨_,_,qe0 j m4,_,σ'',_,rfl,n1,(q2.trans u2).trans (s2.trans n2),hR⟩
   cases e with
   |normal=>cases he3;exact hend none .ready (λrr=>⟨rfl,rfl⟩) s4
   |ret=>cases he3;exact hend (some .ret) .ret (λrr=>⟨rfl,rfl⟩) s4
   |exit id=>cases he3;exact hend (some (.exit id)) (.exit id) (λrr=>⟨rfl,rfl⟩) s4
   |goto l=>cases he3
   |panic c=>cases he3
   |outgrown=>cases he3
  |exit id=>cases he
  |ret=>cases he
  |goto l=>cases he
  |panic c=>cases he
  |outgrown=>cases he
end
end AF
end
section
namespace AF
open Go
theorem HR.push{w w':World}{σ:List OB}{h:wh}(H:HR w σ h)(hg:w.grownBy w' none){o':OB}{a':AObj}(hb: ∀b,o'.blk=some b->w.heap.size<=b∧b<w'.heap.size)
  (ho:Ext w σ w' (σ++ [o'])->OR w' (σ++ [o']) a' o'):HR w' (σ++ [o']) (h++ [a'])∧Ext w σ w' (σ++ [o']):=by
 have hget: ∀(j:Nat) (x:OB),(σ++ [o'])[j]? =some x->(σ[j]? =some x)∨(j=σ.length∧x=o'):=by
  intro j x hj;rw[List.getElem?_append]at hj;split at hj
  ·exact .inl hj
  ·rename_i hn;rw[List.getElem?_singleton]at hj;split at hj
   ·exact .inr ⟨by omega,by simpa using hj.symm⟩
   ·cases hj
 have hext:Ext w σ w' (σ++ [o']):=by
  refine⟨hg.os,hg.tape,hg.output,hg.size,λb hb' _=>hg.block b hb' (by simp),?_,λk o hk=>⟨o,?_,Nat.le_refl _,λ_=>rfl⟩,λb r hr=>⟨r,(hg.block b (Array.getElem?_eq_some_iff.1 hr).1 (by simp)).trans hr⟩⟩
  ·rintro b ⟨j,x,hj,hx⟩;rcases hget j x hj with hj'|⟨_,rfl⟩
   ·exact .inl ⟨j,x,hj',hx⟩
   ·exact .inr (hb b hx).1
  ·rw[List.getElem?_append_left (List.getElem?_eq_some_iff.1 hk).1];exact hk
 refine⟨⟨by simp[H.len],?_,?_,?_⟩,hext⟩
 ·intro i j oi oj b hi hj bi bj;rcases hget i oi hi with hi'|⟨rfl,rfl⟩<;>rcases hget j oj hj with hj'|⟨rfl,rfl⟩
  ·exact H.inj i j oi oj b hi' hj' bi bj
  ·have:=H.lt i oi b hi' bi
   have:=(hb b bj).1
   omega
  ·have:=H.lt j oj b hj' bj
   have:=(hb b bi).1
   omega
  ·rfl
 ·intro k o b hk hb';rcases hget k o hk with hk'|⟨_,rfl⟩
  ·exact Nat.lt_of_lt_of_le (H.lt k o b hk' hb') hg.size
  ·exact (hb b hb').2
 ·intro k a o ha hk;rcases hget k o hk with hk'|⟨rfl,rfl⟩
  ·have:k<h.length:=by rw[<-H.len];exact (List.getElem?_eq_some_iff.1 hk').1
   rw[List.getElem?_append_left this]at ha;exact (H.obj k a o ha hk').ext hext (λb hx=>hg.block b (H.lt k o b hk' hx) (by simp))
  ·rw[H.len,List.getElem?_append_right (Nat.le_refl _)]at ha;simp at ha;subst ha;exact ho hext
theorem UU{n:Nat}: ∀ {cs:wi},qV.lowVs n cs=true↔ ∀c∈cs,qV n c=true:=by
 intro cs
 induction cs with
 |nil=>simp[qV.lowVs]
 |cons c cs ih=>simp[qV.lowVs,ih]
theorem qBt{w:World}{ow:Nat->Prop}{n:Nat}{c:AV}{x:Value}(h:VI w ow c x):qV n c=true:=by
 have all: ∀ {cs:wi} {vs:Array Value},vs.size=cs.length->(∀(i:Nat) c x,cs[i]? =some c->vs[i]? =some x->qV n c=true)->qV.lowVs n cs=true:=by
  intro cs vs hl h;rw[UU];intro c hc;obtain⟨i,hi⟩:=List.getElem?_of_mem hc
  have:i<vs.size:=by rw[hl];exact (List.getElem?_eq_some_iff.1 hi).1
  exact h i c vs[i] hi (by simp[this])
 induction h with
 |agg hl h1 h ih=>simp only[qV];exact all hl ih
 |tup hl h ih=>simp only[qV];exact all hl ih
 |fn hl hl' h h' ih ih'=>simp only[qV,Bool.and_eq_true];exact⟨all hl ih,all hl' ih'⟩
 |_=>rfl
theorem qnC{w:World}{σ:List OB}{n:Nat}(hn:σ.length<=n){c:AV}{x:Value}(h:VR w σ c x):qV n c=true:=by
 have all: ∀ {cs:wi} {vs:Array Value},vs.size=cs.length->(∀(i:Nat) c x,cs[i]? =some c->vs[i]? =some x->qV n c=true)->qV.lowVs n cs=true:=by
  intro cs vs hl h;rw[UU];intro c hc;obtain⟨i,hi⟩:=List.getElem?_of_mem hc
  have:i<vs.size:=by rw[hl];exact (List.getElem?_eq_some_iff.1 hi).1
  exact h i c vs[i] hi (by simp[this])
 induction h with
 |imm h=>exact qBt h
 |osl o ho hs hv hh=>have:=(List.getElem?_eq_some_iff.1 ho).1;simp only[qV,decide_eq_true_eq];omega
 |op o ho hs hv hh=>have:=(List.getElem?_eq_some_iff.1 ho).1;simp only[qV,decide_eq_true_eq];omega
 |mp o ho hs hv hh=>have:=(List.getElem?_eq_some_iff.1 ho).1;simp only[qV,decide_eq_true_eq];omega
 |yld o ho hs hh=>have:=(List.getElem?_eq_some_iff.1 ho).1;simp only[qV,decide_eq_true_eq];omega
 |agg hl h1 h ih=>simp only[qV];exact all hl ih
 |tup hl h ih=>simp only[qV];exact all hl ih
 |fn hl hl' h h' ih ih'=>simp only[qV,Bool.and_eq_true];exact⟨all hl ih,all hl' ih'⟩
 | @gd g v x h h' ih=>
  cases g with
  |true=>simpa[qV] using ih rfl
  |false=>rfl
theorem qb9{σ:List OB}{n:Nat}{b:Nat}(h:own (σ.take n) b):own σ b:=by
 obtain⟨k,o,h1,h2⟩:=h;rw[List.getElem?_take]at h1;split at h1
 ·exact⟨k,o,h1,h2⟩
 ·cases h1
theorem qgp{w:World}{σ:List OB}{n:Nat}{c:AV}{x:Value}(h:VR w σ c x)(hl:qV n c=true):VR w (σ.take n) c x:=by
 have ag: ∀ {k:Nat} {o:OB},σ[k]? =some o->k<n->(σ.take n)[k]? =some o:=by
  intro k o ho hk;rw[List.getElem?_take,if_pos hk];exact ho
 induction h with
 |imm h=>exact .imm (h.mono (λ_ _ _=>rfl) (Nat.le_refl _) (λb hb=> .inl (qb9 hb)))
 |osl o ho hs hv hh=>exact .osl o (ag ho (by simpa[qV] using hl)) hs hv hh
 |op o ho hs hv hh=>exact .op o (ag ho (by simpa[qV] using hl)) hs hv hh
 |mp o ho hs hv hh=>exact .mp o (ag ho (by simpa[qV] using hl)) hs hv hh
 |yld o ho hs hh=>exact .yld o (ag ho (by simpa[qV] using hl)) hs hh
 |agg hz h1 h ih=>
  simp only[qV,UU]at hl;exact .agg hz h1 (λi c x hc hx=>ih i c x hc hx (hl c (List.mem_of_getElem? hc)))
 |tup hz h ih=>
  simp only[qV,UU]at hl;exact .tup hz (λi c x hc hx=>ih i c x hc hx (hl c (List.mem_of_getElem? hc)))
 |fn hz hz' h h' ih ih'=>
  simp only[qV,Bool.and_eq_true,UU]at hl;exact .fn hz hz' (λi c x hc hx=>ih i c x hc hx (hl.1 c (List.mem_of_getElem? hc))) (λi c x hc hx=>ih' i c x hc hx (hl.2 c (List.mem_of_getElem? hc)))
 | @gd g v x h h' ih=>
  refine .gd (λhg=>ih hg ?_) h';subst hg;simpa[qV] using hl
theorem qAx{w:World}{σ:List OB}{n:Nat}(hn:σ.length<=n){a:AObj}{o:OB}(h:OR w σ a o):lowO n a:=by
 cases a with
 |emp ver=>trivial
 |mem ver ty cs=>
  obtain⟨_,_,b,arr,_,_,h3,h4,_,h6⟩:=h;intro c hc;obtain⟨i,hi⟩:=List.getElem?_of_mem hc
  have:i<arr.size:=Nat.lt_of_lt_of_le (List.getElem?_eq_some_iff.1 hi).1 h4
  exact qnC hn (h6 i c arr[i] hi (by simp[this]))
 |lp s ts L=>
  obtain⟨_,b,r,_,_,_,_,_,_,h7,h8⟩:=h;intro c hc;obtain⟨i,hi⟩:=List.getElem?_of_mem hc
  have:i<r.tmps.size:=by rw[h7];exact (List.getElem?_eq_some_iff.1 hi).1
  exact qnC hn (h8 i c r.tmps[i] hi (by simp[this]))
 |map ver es=>
  obtain⟨_,b,ms,clock,_,_,⟨h5,h6⟩,_⟩:=h;intro p hp;obtain⟨i,hi⟩:=List.getElem?_of_mem hp
  have:i<ms.size:=by rw[h5];exact (List.getElem?_eq_some_iff.1 hi).1
  exact qnC hn (h6 i p ms[i] hi (by simp[this])).2
 |pin bs G=>trivial
theorem quh{w:World}{σ:List OB}{n:Nat}{a:AObj}{o:OB}(h:OR w σ a o)(hl:lowO n a):OR w (σ.take n) a o:=by
 cases a with
 |emp ver=>exact h
 |mem ver ty cs=>
  obtain⟨h0,h1,b,arr,h2,h3,h4,h5,h6,h7⟩:=h;exact⟨h0,h1,b,arr,h2,h3,h4,h5,h6,λi c x hc hx=>qgp (h7 i c x hc hx) (hl c (List.mem_of_getElem? hc))⟩
 |lp s ts L=>
  obtain⟨h1,b,r,h2,h3,g1,g2,g3,g4,g5,g6⟩:=h;exact⟨h1,b,r,h2,h3,g1,g2,g3,g4,g5,λi c x hc hx=>qgp (g6 i c x hc hx) (hl c (List.mem_of_getElem? hc))⟩
 |map ver es=>
  obtain⟨h1,b,ms,clock,h2,h3,⟨h4,h5⟩,h6⟩:=h;exact⟨h1,b,ms,clock,h2,h3,⟨h4,λi p m hp hm=>⟨(h5 i p m hp hm).1,qgp (h5 i p m hp hm).2 (hl p (List.mem_of_getElem? hp))⟩⟩,h6⟩
 |pin bs G=>
  obtain⟨h1,h2,h3,h4⟩:=h;exact⟨h1,h2,λb hb=>⟨λhw=>(h3 b hb).1 (qb9 hw),(h3 b hb).2⟩,h4⟩
theorem HR.trunc{w0 w:World}{σ0 σ:List OB}{h0 hh tl:wh}(H0:HR w0 σ0 h0)(E:Ext w0 σ0 w σ)(H:HR w σ (hh++tl))(hl:hh.length=h0.length)(low: ∀o∈hh,o∈h0∨lowO h0.length o):
  HR w (σ.take h0.length) hh∧Ext w0 σ0 w (σ.take h0.length):=by
 have hget: ∀(j:Nat) (x:OB),(σ.take h0.length)[j]? =some x->σ[j]? =some x∧j<h0.length:=by
  intro j x hj;rw[List.getElem?_take]at hj;split at hj
  ·exact⟨hj,‹_›⟩
  ·cases hj
 have hlen:σ.length=hh.length+tl.length:=by rw[H.len];simp
 refine⟨⟨by simp;omega,?_,?_,?_⟩,⟨E.os,E.tape,E.output,E.size,E.keep,λb hb=>E.own b (qb9 hb),λk o hk=> ?_,E.loops⟩⟩
 ·intro i j oi oj b hi hj bi bj;exact H.inj i j oi oj b (hget i oi hi).1 (hget j oj hj).1 bi bj
 ·intro k o b hk hb;exact H.lt k o b (hget k o hk).1 hb
 ·intro k a o ha hk;have hlow:lowO h0.length a:=by
   rcases low a (List.mem_of_getElem? ha)with h|h
   ·obtain⟨i,hi⟩:=List.getElem?_of_mem h;have hi':i<σ0.length:=by rw[H0.len];exact (List.getElem?_eq_some_iff.1 hi).1
    exact qAx (by rw[H0.len];exact Nat.le_refl _) (H0.obj i a σ0[i] hi (List.getElem?_eq_getElem hi'))
   ·exact h
  refine quh (H.obj k a o ?_ (hget k o hk).1) hlow;rw[List.getElem?_append_left (List.getElem?_eq_some_iff.1 ha).1];exact ha
 ·obtain⟨o',g1,g2,g3⟩:=E.obj k o hk;refine⟨o',?_,g2,g3⟩;rw[List.getElem?_take,if_pos (by rw[<-H0.len];exact (List.getElem?_eq_some_iff.1 hk).1)];exact g1
end AF
end
section
namespace AF
open Go
section
variable {P : Program} {b : Nat}
theorem qdg(w:World)(o:Obj):(newObj o).run P w= .ok w.heap.size (w.alloc o):=rfl
theorem qhM{N:Nat}{w:World}{σ:List OB}{t:wi}{h:wh}{a:Act}(H:SR N w σ t h a){ρ:Option Nat}(hρ: ∀l,ρ=some l-> ∃r,w.heap[l]? =some (.loop r))(fn:FuncId)(ps:Array Tmp)(ka kb:Code):
  ∃(l:Nat) (mark:List Deferred) (w1:World) (σ1:List OB),(Instr.enterLoop fn a.tmps ps ka kb ρ).run P w= .ok (l,mark) w1∧
   SR N w1 σ1 t (h++ [.lp .ready t ⟨ps,ka,kb⟩]) { a with defers:=mark++a.defers }∧Ext w σ w1 σ1∧ ∃o:OB,σ1[h.length]? =some o∧o.ver=0∧o.blk=some l:=by
 cases ρ with
 |some l'=>
  obtain⟨r,hr⟩:=hρ l' rfl;have hrun:(Instr.enterLoop fn a.tmps ps ka kb (some l')).run P w= .ok (w.heap.size,[]) (w.alloc (.loop { state:= .ready,pending:=none,fn,tmps:=a.tmps,params:=ps,assign:=ka,body:=kb,defers:=r.defers })):=by
   simp[Instr.enterLoop,Sem.run_bind,kJ hr,Result.andThen,qdg]
  obtain⟨u1,u2⟩:=H.hr.push (w':=w.alloc (.loop { state:= .ready,pending:=none,fn,tmps:=a.tmps,params:=ps,assign:=ka,body:=kb,defers:=r.defers })) (jJ _) (o':=⟨some w.heap.size,0,0,0⟩) (a':= .lp .ready t ⟨ps,ka,kb⟩)
   (by rintro b ⟨⟩;exact⟨Nat.le_refl _,(Array.getElem?_eq_some_iff.1 (heap_alloc_new w _)).1⟩)
   (λe=>⟨rfl,_,_,rfl,heap_alloc_new w _,⟨rfl,rfl⟩,rfl,rfl,rfl,H.sz,λi c x hc hx=>(H.tm i c x hc hx).ext e⟩)
  exact⟨_,_,_,_,hrun,⟨u1,H.sz,λi c x hc hx=>(H.tm i c x hc hx).ext u2,by simpa using qaH u2 H.df⟩,u2,⟨some w.heap.size,0,0,0⟩,by rw[<-H.hr.len];simp,rfl,rfl⟩
 |none=>
  have hrun:(Instr.enterLoop fn a.tmps ps ka kb none).run P w= .ok ((w.alloc (.deferred (some []))).heap.size,[qc7 w.heap.size]) ((w.alloc (.deferred (some []))).alloc (.loop { state:= .ready,pending:=none,fn,tmps:=a.tmps,params:=ps,assign:=ka,body:=kb,defers:=w.heap.size })):=by
   simp[Instr.enterLoop,Sem.run_bind,Result.andThen,qdg,qc7]
  obtain⟨v1,v2⟩:=H.hr.grow (w':=w.alloc (.deferred (some []))) (jJ _);obtain⟨u1,u2⟩:=v1.push (w':=(w.alloc (.deferred (some []))).alloc (.loop { state:= .ready,pending:=none,fn,tmps:=a.tmps,params:=ps,assign:=ka,body:=kb,defers:=w.heap.size })) (jJ _) (o':=⟨some (w.alloc (.deferred (some []))).heap.size,0,0,0⟩) (a':= .lp .ready t ⟨ps,ka,kb⟩)
   (by rintro b ⟨⟩;exact⟨Nat.le_refl _,(Array.getElem?_eq_some_iff.1 (heap_alloc_new _ _)).1⟩)
   (λe=>⟨rfl,_,_,rfl,heap_alloc_new _ _,⟨rfl,rfl⟩,rfl,rfl,rfl,H.sz,λi c x hc hx=>((H.tm i c x hc hx).ext v2).ext e⟩)
  refine⟨_,_,_,_,hrun,⟨u1,H.sz,λi c x hc hx=>((H.tm i c x hc hx).ext v2).ext u2,?_⟩,v2.trans u2,⟨some (w.alloc (.deferred (some []))).heap.size,0,0,0⟩,by rw[<-v1.len];simp,rfl,rfl⟩;refine qaH u2 ?_;obtain⟨rs,h1,h2,h3,h4⟩:=H.df;have hlt:=(Array.getElem?_eq_some_iff.1 (heap_alloc_new w (.deferred (some [])))).1;refine⟨w.heap.size::rs,by simp[h1],?_,Nat.le_trans h3 v2.size,?_⟩
  ·refine List.nodup_cons.2 ⟨λhm=> ?_,h2⟩
   have:=(h4 _ hm).2.1
   omega
  ·intro r hr;rcases List.mem_cons.1 hr with rfl|hr
   ·exact⟨h3,hlt,λhw=>absurd (qAy H.hr.lt hw) (by omega),heap_alloc_new w _⟩
   ·obtain⟨g1,g2,g3,g4⟩:=h4 r hr;exact⟨g1,Nat.lt_of_lt_of_le g2 v2.size,g3,(v2.keep r g2 g3).trans g4⟩
theorem qka{w:World}{f:FuncId}{us vs args:Array Value}(hf:okF P f=true):(invoke (.fn (.func f) vs) (us++args)).run P w= .ok (.enter f (us++args++vs)) w:=by
 unfold okF at hf;cases hfn:P.funcs[f]? with
 |none=>simp[hfn]at hf
 |some fn=>
  simp[hfn]at hf;simp only[invoke,callFunc];simp[program,Sem.run_bind,Sem.run,Result.andThen,hfn];rw[if_neg hf.2,if_neg (by cases hb:fn.body<;>simp_all)]
theorem qf4{g:Operand}{u:X}{ps:Array Tmp}{x y:C}{ka kb:Code}(hu:cvX g=some u)(hx:kt P b x ka)(hy:kt P b y kb):kt P b (.range u ps.toList x y) (.rangeFunc g ps ka kb):=by
 intro N ρ Q w σ t h a hc hρ H;have hc':=(show qeV P (ev t u) ps.toList (ze P b x) (ze P b y) Q t h from hc) ⟨ps,ka,kb⟩ (λk ts args h1 R hk hl hw=>qgr (L:=⟨ps,ka,kb⟩) hx hy hk hl hw);have hv:=qkD H.sz H.tm hu;split at hc'
 ·rename_i f first cap he
  rw[he]at hv;refine wpIn_rangeFunc λfn _=> ?_
  obtain⟨l,mark,w1,σ1,hrun,H1,e1,o,ho,hov,hob⟩:=qhM (P:=P) H hρ fn ps ka kb;have hv1:=hv.ext e1;obtain⟨us,zs,ef,l1,l2,v1,v2⟩:=qgo hv1;have hres:(resolve a.eval (rangeCall g l) 0).run P w1= .ok { target:= .fn (.func f) zs,args:=us++ #[.func (.yield l) #[] #[]] } w1:=by
   simp only[resolve,rangeCall,ef,Deferred.ofValue,Sem.run_pure,List.map_toArray,List.map_cons,List.map_nil];rfl
  refine⟨l,mark,w1,_,w1,f,us++ #[.func (.yield l) #[] #[]]++zs,w1,hrun,hres,λ_ _=>trivial,qka hc'.1,λh=>by simp[FW,Fence.wide]at h,?_⟩;have hargs:VRs w1 σ1 (first++ [.yld h.length]++cap) (us++ #[Value.func (.yield l) #[] #[]]++zs).toList:=by
   have a1:VRs w1 σ1 first us.toList:=⟨by simpa using l1,λi c x hc hx=>v1 i c x hc (by simpa using hx)⟩
   have a2:VRs w1 σ1 cap zs.toList:=⟨by simpa using l2,λi c x hc hx=>v2 i c x hc (by simpa using hx)⟩
   have a3:VRs w1 σ1 [.yld h.length] [.func (.yield l) #[] #[]]:=⟨rfl,λi c x hc hx=>by
    cases i with
    |zero=>simp at hc hx;subst hc hx;exact .yld o ho ⟨_,rfl⟩ (λ_=>⟨l,hob,rfl⟩)
    |succ i=>simp at hc⟩
   simpa using (a1.split a3).split a2
  have hcall:=hc'.2 w1 σ1 _ H1.hr hargs;rw[Array.toArray_toList]at hcall;refine hcall.mono ?_;rintro e w' ⟨v,σ',rr,h',⟨hh,s,ts,L,hh',hlen,hlow,hq⟩,rfl,g1,g2,g3⟩;subst hh';obtain⟨o',p1,p2,p3⟩:=g3.obj _ o ho;have hget:(hh++ [AObj.lp s ts L])[h.length]? =some (.lp s ts L):=by rw[<-hlen];simp
  obtain⟨q0,l',r,q1,q2,q3,q4,q5,q6,q7,q8⟩:=g1.obj _ _ o' hget p1
  have:=p3 (by rw[q0,hov])
  subst this;rw[hob]at q1;cases q1;have hns:r.state≠ .busy:=by
   intro hb;cases s with
   |ready=>rw[q3.1]at hb;cases hb
   |busy=>exact hq
   |ret=>rw[q3.1]at hb;cases hb
   |exit id=>rw[q3.1]at hb;cases hb
  refine⟨_,_,qfW q2 hns,?_⟩;obtain⟨k1,k2⟩:=g1.update (w':=jk w' l { r with state:= .exhausted }) (o':= { o' with blk:=none,ver:=o'.ver+1 }) (a':= .emp (o'.ver+1)) p1 (by rw[hob];exact qaR w' l _) (by simp) (by simp) (by simp)
   (λb r1 hb _=>by rw[hob]at hb;cases hb;exact⟨_,kZ q2⟩) (λ_=>⟨rfl,rfl⟩)
  have hset:(hh++ [AObj.lp s ts L]).set h.length (.emp (o'.ver+1))=hh++ [.emp (o'.ver+1)]:=by
   rw[<-hlen];simp
  rw[hset]at k1;have ee:=(e1.trans g3).trans k2;obtain⟨m1,m2⟩:=HR.trunc H.hr ee k1 hlen hlow;have hsr:SR N (jk w' l { r with state:= .exhausted }) ((σ'.set h.length { o' with blk:=none,ver:=o'.ver+1 }).take h.length) t hh { a with defers:=mark++a.defers }:=by
   refine⟨m1,H.sz,λi c x hc hx=>(H.tm i c x hc hx).ext m2,?_⟩;obtain⟨rs,d1,d2,d3,d4⟩:=qaH (g3.trans k2) H1.df;exact⟨rs,d1,d2,d3,λr hr=>⟨(d4 r hr).1,(d4 r hr).2.1,λhw=>(d4 r hr).2.2.1 (qb9 hw),(d4 r hr).2.2.2⟩⟩
  clear k1 k2 ee m1;generalize jk w' l { r with state:= .exhausted }=w4 at hsr m2 ⊢;cases s with
  |ready=>
   rw[q3.2];exact⟨.normal,_,t,hh,rfl,hsr,m2,hq⟩
  |busy=>exact hq.elim
  |ret=>
   rw[q3.2];exact wpIn_ret ⟨.ret,_,t,hh,rfl,hsr,m2,hq⟩
  |exit id=>
   rw[q3.2];exact wpIn_exit ⟨.exit id,_,t,hh,rfl,hsr,m2,hq⟩
 ·exact hc'.elim
theorem qgF{js:List Tmp}{imp:List FuncId}{wks:List Nat}: ∀ {k:Code} {c:C},cv P js imp wks k=some c->kt P b c k:=by
 intro k
 induction k with
 |skip=>intro c h;cases h;exact qiw
 |region id ops draw=>
  intro c h;simp only[cv]at h;split at h
  ·rename_i l hl;split at h
   ·rename_i hdr;split at h
    ·rename_i hq;simp only[Bool.and_eq_true]at hdr hq;obtain rfl:=hdr.1;split at h
     ·cases h;exact qhe (qdj hl hq.1 hq.2 b)
     ·cases h;exact qdj hl hq.1 hq.2 b
    ·cases h;exact gO
   ·rename_i hd;have hd':draw=true->qkG ops l=true∧P.follows .mixedOrders=true:=by
     intro e;subst e;simpa using hd
    split at h
    ·cases h;exact qhe (qe7 hl hd' b)
    ·cases h;exact qe7 hl hd' b
  ·cases h;exact gO
 |seq a b iha ihb=>
  intro c h;simp only[cv]at h;split at h
  ·rename_i x y h1 h2;cases h;exact qmO (iha h1) (ihb h2)
  ·cases h;exact gO
 |cond o a b iha ihb=>
  intro c h;simp only[cv]at h;split at h
  ·rename_i u x y h0 h1 h2;cases h;exact qit h0 (iha h1) (ihb h2)
  ·cases h;exact gO
 |block id a ih=>
  intro c h;simp only[cv,Option.map_eq_some_iff]at h;obtain⟨x,h1,rfl⟩:=h;exact qf3 (ih h1)
 |loop a ih=>
  intro c h;simp only[cv,Option.map_eq_some_iff]at h;obtain⟨x,h1,rfl⟩:=h;exact qiv (ih h1)
 |rangeFunc f ps a b iha ihb=>
  intro c h;simp only[cv]at h;split at h
  ·rename_i u x y h0 h1 h2;cases h;exact qf4 h0 (iha h1) (ihb h2)
  ·cases h;exact gO
 |exit id=>intro c h;cases h;exact qiu
 |ret=>intro c h;cases h;exact qmN
 |_=>intro c h;cases h;exact gO
end
end AF
end
section
namespace AF
open Go
inductive RV where
 |tmp (n:Nat)
 |cell (n:Nat) (m:Option Nat)
 deriving Inhabited
def RV.val(t:wi)(h:wh):RV->AV
 | .tmp n=>zU n t
 | .cell n m=>valL h (.load m) [zU n t]
def RV.ok(t:wi)(h:wh):RV->Prop
 | .tmp _=>True
 | .cell n m=>match zU n t with
  | .op k ver off=>okL h (.load m) [.op k ver off]
  |_=>False
def kK(t:wi)(h:wh):List RV->Prop
 | []=>True
 |r::l=>r.ok t h∧kK t h l
def jm(t:wi)(h:wh):List RV->wi
 | []=> []
 |r::l=>r.val t h::jm t h l
def qfT(vs:wi):AV:=
 match vs with
 | [v]=>v
 |vs=> .tup vs
def qEX(P:Program):ResultVar->Option RV
 | .tmp t=>some (.tmp t)
 | .cell a ty=>(qaa P ty).map λn=> .cell a n
def qhJ(P:Program):List ResultVar->Option (List RV)
 | []=>some []
 |r::l=>match qEX P r,qhJ P l with
  |some a,some b=>some (a::b)
  |_,_=>none
section
variable {P : Program} {w : World} {σ : List OB}
theorem qlf{t:wi}{a:Array Value}(hs:a.size=t.length)(H: ∀(i:Nat) c x,t[i]? =some c->a[i]? =some x->VR w σ c x)(n:Nat):VR w σ (zU n t) (a.getD n Go.undef):=by
 rw[qb3];cases hc:t[n]? with
 |none=>exact .imm .undef
 |some c=>
  have hlt:n<a.size:=by rw[hs];exact (List.getElem?_eq_some_iff.1 hc).1
  have:=H n c a[n] hc (by simp[hlt])
  simpa[hlt] using this
theorem qlt{t:TypeId}{n:Option Nat}{h:wh}(hf:qaa P t=some n)(H:HR w σ h){k ver p:Nat}{x:Value}(hv:VR w σ (.op k ver p) x)(hok:okL h (.load n) [.op k ver p]):
  ∃y,(do loadVar t (<-asAddr x)).run P w= .ok y w∧VR w σ (valL h (.load n) [.op k ver p]) y:=by
 obtain⟨hs,hok⟩:=hok;obtain⟨cs,ob,b,arr,g1,ex,g2,g3,g4,g5,g6,g7,g9,g8⟩:=kH H hv hs;rw[g1,Option.getD_some]at hok;have hval:valL h (.load n) [.op k ver p]=cut cs p n:=by simp[valL,g1]
 rw[hval];obtain⟨y,hy1,hy2⟩:=qfX (P:=P) (w:=w) (σ:=σ) hf (cs:=cs) (b:=b) (off:=0) (p:=p) (f:=λj=>arr.getD j Go.undef) (λj hj _=>by
   have hj':j<arr.size:=by omega
   rw[Nat.zero_add,kh g5]
   simp[hj']) (λj hj=>by
   have hj':j<arr.size:=by omega
   exact g9 j _ hj (by simp[hj'])) (λj c hj=>by
   have hj':j<arr.size:=by have:=(List.getElem?_eq_some_iff.1 hj).1;omega
   exact g8 j c _ hj (by simp[hj'])) hok
 rw[Nat.zero_add]at hy1;exact⟨y,by simp[ex,asAddr,Sem.run_bind,Result.andThen,hy1],hy2⟩
def quF(tm:Array Value):ResultVar->Sem Value
 | .tmp t=>pure (tm.getD t Go.undef)
 | .cell a t=>do loadVar t (<-asAddr (tm.getD a Go.undef))
theorem qif(fn:Func)(tm:Array Value):results fn tm=(do
  let vs<-fn.results.mapM (quF tm)
  pure (if h:vs.size=1 then vs[0] else .tuple vs)):=by
 unfold results;congr 2
theorem qeZ{t:wi}{h:wh}{tm:Array Value}(H:HR w σ h)(hs:tm.size=t.length)(ht: ∀(i:Nat) c x,t[i]? =some c->tm[i]? =some x->VR w σ c x):
  ∀ {l:List ResultVar} {rs:List RV},qhJ P l=some rs->kK t h rs-> ∃vs,(l.mapM (quF tm)).run P w= .ok vs w∧VRs w σ (jm t h rs) vs:=by
 intro l
 induction l with
 |nil=>intro rs hc hok;cases hc;exact⟨[],rfl,rfl,λi c x hc=>by simp[jm]at hc⟩
 |cons r l ih=>
  intro rs hc hok;simp only[qhJ]at hc;split at hc
  ·rename_i a b h1 h2;cases hc;obtain⟨vs,g1,g2⟩:=ih h2 hok.2;have hx: ∃y,(quF tm r).run P w= .ok y w∧VR w σ (a.val t h) y:=by
    cases r with
    |tmp n=>
     cases h1;exact⟨_,rfl,qlf hs ht n⟩
    |cell n ty=>
     simp only[qEX,Option.map_eq_some_iff]at h1;obtain⟨m,h1,rfl⟩:=h1;have hok1:=hok.1;simp only[RV.ok]at hok1;split at hok1
     ·rename_i k ver p he;have hv:=qlf (w:=w) (σ:=σ) hs ht n;rw[he]at hv;obtain⟨y,y1,y2⟩:=qlt h1 H hv hok1;exact⟨y,y1,by simpa[RV.val,he] using y2⟩
     ·exact hok1.elim
   obtain⟨y,y1,y2⟩:=hx;refine⟨y::vs,?_,by simp[jm,g2.1],λi c x hc hx=> ?_⟩
   ·rw[List.mapM_cons,Sem.run_bind,y1];simp[Result.andThen,Sem.run_bind,g1]
   ·cases i with
    |zero=>simp[jm]at hc hx;subst hc hx;exact y2
    |succ i=>exact g2.2 i c x (by simpa[jm] using hc) (by simpa using hx)
  ·cases hc
theorem qdd{fn:Func}{t:wi}{h:wh}{tm:Array Value}(H:HR w σ h)(hs:tm.size=t.length)(ht: ∀(i:Nat) c x,t[i]? =some c->tm[i]? =some x->VR w σ c x)
  {rs:List RV} (hc:qhJ P fn.results.toList=some rs) (hok:kK t h rs): ∃v,(results fn tm).run P w= .ok v w∧VR w σ (qfT (jm t h rs)) v:=by
 obtain⟨vs,g1,g2,g3⟩:=qeZ (P:=P) H hs ht hc hok;have e:(results fn tm).run P w= .ok (if h:vs.toArray.size=1 then vs.toArray[0] else .tuple vs.toArray) w:=by
  rw[qif,Array.mapM_eq_mapM_toList,Sem.run_bind];simp[Sem.run_bind,g1,Result.andThen]
 refine⟨_,e,?_⟩;generalize jm t h rs=us at g2 g3
 match us,vs,g2,g3 with
 | [u],[v],_,g3=>exact g3 0 u v rfl rfl
 | [],[],_,g3=>exact .imm (.tup rfl (λi c x hc=>by simp at hc))
 |u::u'::us,v::v'::vs,g2,g3=>
  have:(v::v'::vs).toArray.size≠1:=by simp
  rw[dif_neg this];exact .tup (by simpa using g2) (λi c x hc hx=>g3 i c x hc (by simpa using hx))
structure Dt (N:Nat) (w w':World):Prop where
 os:w'.os=w.os
 tape:w'.tape=w.tape
 output:w'.output=w.output
 size:w'.heap.size=w.heap.size
 keep: ∀b:Nat,w'.heap[b]? =w.heap[b]? ∨(N<=b∧ ∃d,w.heap[b]? =some (.deferred d))
theorem VR.dt{N:Nat}{w':World}(e:Dt N w w'){c:AV}{x:Value}(h:VR w σ c x):VR w' σ c x:=by
 induction h with
 |imm h=>exact .imm (h.mono' (λb _ _=>(e.keep b).imp id And.right) (Nat.le_of_eq e.size.symm) (λb hb=> .inl hb))
 |osl o ho hs hv hh=>exact .osl o ho hs hv hh
 |op o ho hs hv hh=>exact .op o ho hs hv hh
 |mp o ho hs hv hh=>exact .mp o ho hs hv hh
 |yld o ho hs hh=>exact .yld o ho hs hh
 |agg hl h1 h ih=>exact .agg hl h1 ih
 |tup hl h ih=>exact .tup hl ih
 |fn hl hl' h h' ih ih'=>exact .fn hl hl' ih ih'
 |gd h h' ih=>exact .gd ih h'
theorem HR.dt{N:Nat}{w':World}(e:Dt N w w'){h:wh}(H:HR w σ h):HR w' σ h:=by
 refine⟨H.len,H.inj,λk o b hk hb=>by rw[e.size];exact H.lt k o b hk hb,λk a o ha hk=> ?_⟩
 have:=H.obj k a o ha hk
 cases a with
 |emp ver=>exact this
 |mem ver ty cs=>
  obtain⟨h0,h1,b,arr,h2,h3,h4,h5,h6,h7⟩:=this;refine⟨h0,h1,b,arr,h2,?_,h4,h5,h6,λi c x hc hx=>(h7 i c x hc hx).dt e⟩;rcases e.keep b with h|⟨_,d,h⟩
  ·exact h3.same h
  ·obtain⟨T,fz,_,h3'⟩:=h3;rw[h3']at h;cases h
 |lp s ts L=>
  obtain⟨h1,b,r,h2,h3,g1,g2,g3,g4,g5,g6⟩:=this;refine⟨h1,b,r,h2,?_,g1,g2,g3,g4,g5,λi c x hc hx=>(g6 i c x hc hx).dt e⟩;rcases e.keep b with h|⟨_,d,h⟩
  ·exact h.trans h3
  ·rw[h3]at h;cases h
 |map ver es=>
  obtain⟨h1,b,ms,clock,h2,h3,⟨h4,h5⟩,h6⟩:=this;refine⟨h1,b,ms,clock,h2,?_,⟨h4,λi p m hp hm=>⟨(h5 i p m hp hm).1,(h5 i p m hp hm).2.dt e⟩⟩,h6⟩;rcases e.keep b with h|⟨_,d,h⟩
  ·exact h.trans h3
  ·rw[h3]at h;cases h
 |pin bs G=>
  obtain⟨h1,h2,h3,h4⟩:=this;have hs: ∀b,b∈bs->w'.heap[b]? =w.heap[b]? :=λb hb=>by
   obtain⟨h5,arr,T,fz,h6⟩:=h3 b hb;rcases e.keep b with h|⟨_,d,h⟩
   ·exact h
   ·rw[h6]at h;cases h
  refine⟨h1,h2,λb hb=> ?_,λw2 h7=>h4 w2 (λb hb=>(h7 b hb).trans (hs b hb))⟩;obtain⟨h5,arr,T,fz,h6⟩:=h3 b hb;exact⟨h5,arr,T,fz,(hs b hb).trans h6⟩
theorem Ext.dt{w0 w':World}{σ0:List OB}(h:Ext w0 σ0 w σ)(e:Dt w0.heap.size w w'):Ext w0 σ0 w' σ:=by
 refine⟨e.os.trans h.os,e.tape.trans h.tape,e.output.trans h.output,by rw[e.size];exact h.size,λb hb hn=> ?_,h.own,h.obj,λb r hr=> ?_⟩
 ·rcases e.keep b with h1|⟨h1,_⟩
  ·exact h1.trans (h.keep b hb hn)
  ·omega
 ·obtain⟨r',h1⟩:=h.loops b r hr;rcases e.keep b with h2|⟨_,d,h2⟩
  ·exact⟨r',h2.trans h1⟩
  ·rw[h1]at h2;cases h2
theorem qbH{fn:Func}{tm:Array Value}{N:Nat}{R:Ending->World->Prop}: ∀(rs:List Nat) (w:World),rs.Nodup->(∀r∈rs,N<=r∧w.heap[r]? =some (.deferred (some [])))->
  (∀w',Dt N w w'-> ∃v,(results fn tm).run P w'= .ok v w'∧R (.returned v) w')->LeavesInM Fence.wide 0 P fn tm R (rs.map qc7) .returning w:=by
 intro rs
 induction rs with
 |nil=>
  intro w _ _ h;exact h w ⟨rfl,rfl,rfl,rfl,λb=> .inl rfl⟩
 |cons r rs ih=>
  intro w hn hd h;refine⟨by simp,.inl ⟨r,{ w with heap:=w.heap.setIfInBounds r (.deferred none) },rfl,?_,?_⟩⟩
  ·have:=(hd r (by simp)).2
   simp[Instr.takeDeferred,getObj,setObj,Sem.run_bind,Sem.run,Result.andThen,this]
  ·obtain⟨hnr,hn⟩:=List.nodup_cons.1 hn;have hk: ∀b:Nat,({ w with heap:=w.heap.setIfInBounds r (.deferred none) }:World).heap[b]? =w.heap[b]? ∨(N<=b∧ ∃d,w.heap[b]? =some (.deferred d)):=by
    intro b
    by_cases e:b=r
    ·subst e;exact .inr ⟨(hd b (by simp)).1,_,(hd b (by simp)).2⟩
    ·left;simp only[Array.getElem?_setIfInBounds];rw[if_neg (λh=>e h.symm)]
   refine ih _ hn (λr' hr'=>⟨(hd r' (by simp[hr'])).1,?_⟩) (λw' hw'=>h w' ?_)
   ·simp only[Array.getElem?_setIfInBounds];rw[if_neg (λe=>hnr (by rw[e];exact hr'))];exact (hd r' (by simp[hr'])).2
   ·refine⟨hw'.os,hw'.tape,hw'.output,by rw[hw'.size];simp,λb=> ?_⟩;rcases hw'.keep b with h1|⟨h1,d,h2⟩
    ·rw[h1];exact hk b
    ·rcases hk b with h3|h3
     ·rw[h3]at h2;exact .inr ⟨h1,d,h2⟩
     ·exact .inr h3
end
def VOut(n:Nat)(h:wh)(v r:AV):Prop:= ∀(w:World) (σ:List OB) (x:Value),HR w σ h->VR w σ v x->VR w (σ.take n) r x
def qEy(rs:List RV)(h0:wh)(r:AV)(h':wh)(t:wi)(hh:wh):Prop:=
 kK t hh rs∧(∃tl,hh=h'++tl)∧h'.length=h0.length∧(∀o∈h',o∈h0∨lowO h0.length o)∧VOut h0.length hh (qfT (jm t hh rs)) r
def fnQ(rs:List RV)(h0:wh)(K:AV->wh->Prop):Ex->Nx
 | .exit _,_,_=>False
 |_,t,hh=> ∃r h',K r h'∧qEy rs h0 r h' t hh
def qG(P:Program)(f nt ns:Nat)(rs:List RV)(c:C):Prop:=
 ∃ (fn : Func) (body : Code) (js : List Tmp) (imp : List FuncId) (wks : List Nat), P.funcs[f]? = some fn ∧ fn.body = some body ∧ (fn.name != "runtime.NumGoroutine") = true ∧ fn.ntmps = nt ∧ js.length = ns ∧
  qhJ P fn.results.toList=some rs∧cv P js imp wks body=some c
theorem HR.pushN{w:World}: ∀(n:Nat) {σ:List OB} {h:wh},HR w σ h->HR w (σ++List.replicate n ⟨none,0,0,0⟩) (h++List.replicate n (.emp 0))∧Ext w σ w (σ++List.replicate n ⟨none,0,0,0⟩):=by
 intro n
 induction n with
 |zero=>intro σ h H;simpa using⟨H,Ext.refl w σ⟩
 |succ n ih=>
  intro σ h H;obtain⟨h1,h2⟩:=H.push (w':=w) ⟨rfl,rfl,rfl,Nat.le_refl _,λ_ _ _=>rfl⟩ (o':=⟨none,0,0,0⟩) (a':= .emp 0) (by simp) (λ_=>⟨rfl,rfl⟩);obtain⟨g1,g2⟩:=ih h1;have e1:σ++List.replicate (n+1) (⟨none,0,0,0⟩:OB)=σ++ [⟨none,0,0,0⟩]++List.replicate n ⟨none,0,0,0⟩:=by simp[List.replicate_succ]
  have e2:h++List.replicate (n+1) (.emp 0)=h++ [AObj.emp 0]++List.replicate n (.emp 0):=by simp[List.replicate_succ]
  rw[e1,e2];exact⟨g1,h2.trans g2⟩
theorem qbe{P:Program}{f nt ns:Nat}{rs:List RV}{c:C}(hf:qG P f nt ns rs c){args:wi}{h:wh}{K:AV->wh->Prop}(ha:args.length<=nt)
  (hw:ze P h.length c (fnQ rs h K) (args++List.replicate (nt-args.length) .undef) (h++List.replicate ns (.emp 0))):jj P f args h K:=by
 obtain⟨fn,body,js,imp,wks,h1,h2,h3,rfl,rfl,h6,h7⟩:=hf;refine⟨by simp[okF,h1,h2,h3],λw σ xs H hv=> ?_⟩;refine callsIn_of_wp_marks h1 h2 trivial ?_;obtain⟨p1,p2⟩:=H.pushN js.length;have hsr:SR w.heap.size w (σ++List.replicate js.length ⟨none,0,0,0⟩) (args++List.replicate (fn.ntmps-args.length) .undef) (h++List.replicate js.length (.emp 0))
   { tmps:=xs.toArray++Array.replicate (fn.ntmps-xs.toArray.size) Go.undef,defers:= [] }:=by
  refine⟨p1,by simp[hv.1],λi c x hc hx=> ?_,⟨[],rfl,.nil,Nat.le_refl _,by simp⟩⟩;rw[List.getElem?_append]at hc;simp only[Array.getElem?_append]at hx;have hz:xs.toArray.size=args.length:=by simp[hv.1]
  split at hc
  ·rename_i hi;rw[if_pos (by omega)]at hx;exact (hv.2 i c x hc (by simpa using hx)).ext p2
  ·rw[List.getElem?_replicate]at hc;split at hc
   ·cases hc;exact .imm .undef
   ·cases hc
 refine wpIn_mono (qgF (b:=h.length) h7 w.heap.size none _ w _ _ _ _ hw (by simp) hsr) ?_;rintro e a' w' ⟨z,σ',t',hh,he,g1,g2,g3⟩;have key:(∃r h',K r h'∧qEy rs h r h' t' hh)->LeavesInM Fence.wide 0 P fn a'.tmps (λe w'=> ∃v σ' r h',K r h'∧e= .returned v∧HR w' σ' h'∧VR w' σ' r v∧Ext w σ w' σ') a'.defers .returning w':=by
  rintro⟨r,h',hK,k1,⟨tl,rfl⟩,k3,k4,k5⟩;obtain⟨ms,d1,d2,d3,d4⟩:=g1.df;rw[d1];refine qbH (N:=w.heap.size) ms w' d2 (λr hr=>⟨(d4 r hr).1,(d4 r hr).2.2.2⟩) (λw1 e1=> ?_);have H1:=g1.hr.dt e1;obtain⟨v,v1,v2⟩:=qdd (P:=P) H1 g1.sz (λi c x hc hx=>(g1.tm i c x hc hx).dt e1) h6 k1;have ee:Ext w σ w1 σ':=(p2.trans g2).dt e1;obtain⟨m1,m2⟩:=HR.trunc H ee H1 k3 k4;exact⟨v,v1,v,_,r,h',hK,rfl,m1,k5 w1 σ' v H1 v2,m2⟩
 cases e with
 |normal=>cases he;exact key g3
 |ret=>cases he;exact key g3
 |exit id=>cases he;exact g3.elim
 |goto l=>cases he
 |panic c=>cases he
 |outgrown=>cases he
theorem jj.calls{P:Program}{f:FuncId}{args:wi}{h:wh}{r:AV}{h':wh}(hq:jj P f args h (λr1 h1=>r1=r∧h1=h')):ACalls P f args h r h':=by
 refine⟨hq.1,λw σ xs H hv=>(hq.2 w σ xs H hv).mono ?_⟩;rintro e w' ⟨v,σ',r1,h1,⟨rfl,rfl⟩,g1,g2,g3,g4⟩;exact⟨v,σ',g1,g2,g3,g4⟩
theorem qF{P:Program}{f nt ns:Nat}{rs:List RV}{c:C}(hf:qG P f nt ns rs c){args:wi}{h:wh}{r:AV}{h':wh}(ha:args.length<=nt)
  (hw:ze P h.length c (fnQ rs h λr1 h1=>r1=r∧h1=h') (args++List.replicate (nt-args.length) .undef) (h++List.replicate ns (.emp 0))):ACalls P f args h r h':=
 (qbe hf ha hw).calls
end AF
end
section
namespace AF
open Go
def VLe(a b:AV):Prop:= ∀(w:World) (σ:List OB) (x:Value),VR w σ a x->VR w σ b x
def ILe(a b:AV):Prop:= ∀(w:World) (ow:Nat->Prop) (x:Value),VI w ow a x->VI w ow b x
theorem VLe.refl(a:AV):VLe a a:=λ_ _ _ h=>h
theorem ILe.refl(a:AV):ILe a a:=λ_ _ _ h=>h
theorem VLe.undef(a:AV):VLe a .undef:=λ_ _ _ _=> .imm .undef
theorem ILe.undef(a:AV):ILe a .undef:=λ_ _ _ _=> .undef
theorem VLe.trans{a b c:AV}(h:VLe a b)(h':VLe b c):VLe a c:=λw σ x hx=>h' w σ x (h w σ x hx)
def qax:wi->wi->Prop
 | [],[]=>True
 |a::l,b::m=>ILe a b∧qax l m
 |_,_=>False
def qbb:wi->wi->Prop
 | [],[]=>True
 |a::l,b::m=>VLe a b∧qbb l m
 |_,_=>False
theorem qax.refl: ∀l,qax l l
 | []=>trivial
 |a::l=>⟨ILe.refl a,qax.refl l⟩
theorem qbb.refl: ∀l,qbb l l
 | []=>trivial
 |a::l=>⟨VLe.refl a,qbb.refl l⟩
theorem qax.length: ∀ {l m:wi},qax l m->m.length=l.length
 | [],[],_=>rfl
 |_::_,_::_,h=>by simp[qax.length h.2]
theorem qbb.length: ∀ {l m:wi},qbb l m->m.length=l.length
 | [],[],_=>rfl
 |_::_,_::_,h=>by simp[qbb.length h.2]
theorem qax.get: ∀ {l m:wi},qax l m-> ∀(i:Nat) b,m[i]? =some b-> ∃a,l[i]? =some a∧ILe a b
 | [],[],_,i,b,h=>by simp at h
 |x::l,y::m,h,0,b,hb=>by simp at hb;subst hb;exact⟨x,rfl,h.1⟩
 |x::l,y::m,h,i+1,b,hb=>by simpa using qax.get h.2 i b (by simpa using hb)
theorem qbb.get: ∀ {l m:wi},qbb l m-> ∀(i:Nat) b,m[i]? =some b-> ∃a,l[i]? =some a∧VLe a b
 | [],[],_,i,b,h=>by simp at h
 |x::l,y::m,h,0,b,hb=>by simp at hb;subst hb;exact⟨x,rfl,h.1⟩
 |x::l,y::m,h,i+1,b,hb=>by simpa using qbb.get h.2 i b (by simpa using hb)
theorem ILe.sl{n:Nat}{f g:Nat->wi}(h: ∀i,i<n->qax (f i) (g i)):ILe (.sl n f) (.sl n g):=by
 intro w ow x hx;cases hx with
 |nilsl=>exact .nilsl
 |sl sz b off cap vals hn hm hb hlt hsz hc h1 hv=>
  refine .sl sz b off cap vals hn hm hb hlt (λi hi=>by rw[(h i hi).length];exact hsz i hi) hc h1 (λi j c hi hj=> ?_);obtain⟨a,ha,hab⟩:=(h i hi).get j c hj;exact hab w ow _ (hv i j a hi ha)
theorem ILe.sl_eq{n:Nat}{f g:Nat->wi}(h: ∀i,i<n->f i=g i):ILe (.sl n f) (.sl n g):=ILe.sl λi hi=>h i hi▸qax.refl _
theorem ILe.nl{f:Nat->wi}:ILe .nl (.sl 0 f):=by
 intro w ow x hx;cases hx;exact .nilsl
theorem ILe.el{f:Nat->wi}:ILe .el (.sl 0 f):=by
 intro w ow x hx;cases hx with
 |el h=>
  rcases h with rfl|⟨b,off,rfl,h1,h2⟩
  ·exact .nilsl
  ·exact .sl 0 b off _ (λ_ _=>Go.undef) (Nat.zero_le _) h1 (λh=>absurd h (Nat.lt_irrefl _)) h2 (λi hi=>absurd hi (Nat.not_lt_zero _)) (λi j hi=>absurd hi (Nat.not_lt_zero _)) (λi j hi=>absurd hi (Nat.not_lt_zero _)) (λi j c hi=>absurd hi (Nat.not_lt_zero _))
theorem ILe.anyb{b:Bool}:ILe (.bool b) .anyb:=by
 intro w ow x hx;cases hx;exact .anyb
theorem ILe.agg{cs ds:wi}(h:qax cs ds):ILe (.agg cs) (.agg ds):=by
 intro w ow x hx;cases hx with
 |agg hl h1 hv=>
  refine .agg (by rw[hl,h.length]) h1 (λi c x hc hx=> ?_);obtain⟨a,ha,hab⟩:=h.get i c hc;exact hab w ow _ (hv i a x ha hx)
def AV.still:AV->Bool
 | .osl .. | .op .. | .mp .. | .yld _| .agg _| .tup _| .fn .. | .gd .. =>false
 |_=>true
theorem zZ{w:World}{σ:List OB}{v:AV}{x:Value}(hs:v.still=true)(h:VR w σ v x):VI w (own σ) v x:=by
 cases h with
 |imm h=>exact h
 |_=>cases hs
theorem VLe.still{a b:AV}(hs:a.still=true)(h:ILe a b):VLe a b:=λw σ x hx=> .imm (h w (own σ) x (zZ hs hx))
theorem VLe.sl{n:Nat}{f g:Nat->wi}(h: ∀i,i<n->qax (f i) (g i)):VLe (.sl n f) (.sl n g):=VLe.still rfl (ILe.sl h)
theorem VLe.sl_eq{n m:Nat}{f g:Nat->wi}(hn:n=m)(h: ∀i,i<n->f i=g i):VLe (.sl n f) (.sl m g):=by subst hn;exact VLe.still rfl (ILe.sl_eq h)
theorem VLe.nl{n:Nat}{f:Nat->wi}(hn:n=0):VLe .nl (.sl n f):=by subst hn;exact VLe.still rfl ILe.nl
theorem VLe.agg{cs ds:wi}(h:qbb cs ds):VLe (.agg cs) (.agg ds):=by
 intro w σ x hx;obtain⟨vs,rfl,hl,h1,hv⟩:=qbR hx;refine .agg (by rw[hl,h.length]) h1 (λi c x hc hx=> ?_);obtain⟨a,ha,hab⟩:=h.get i c hc;exact hab w σ _ (hv i a x ha hx)
theorem VLe.tup{cs ds:wi}(h:qbb cs ds):VLe (.tup cs) (.tup ds):=by
 intro w σ x hx;obtain⟨vs,rfl,hl,hv⟩:=qfh hx;refine .tup (by rw[hl,h.length]) (λi c x hc hx=> ?_);obtain⟨a,ha,hab⟩:=h.get i c hc;exact hab w σ _ (hv i a x ha hx)
def rei(fz:Nat->Bool)(h:wh):Nat->AV->AV
 |0,_=> .undef
 |n+1,v=>match v with
  | .osl k ver sz off len=>if fz k then (match qu k h with
    |some (.mem ve _ cs)=>if ve=ver∧off+len*sz<=cs.length then .sl len (λi=>((cs.drop (off+i*sz)).take sz).map (rei fz h n)) else .undef
    |some (.emp ve)=>if ve=ver then .nl else .undef
    |_=> .undef) else .undef
  | .op k ver off=>if fz k then (match cellsOf h k ver with
    |some cs=> .ip ((cs.drop off).map (rei fz h n))
    |none=> .undef) else .undef
  | .yld _=> .undef
  | .mp .. => .undef
  | .gd .. => .undef
  | .agg cs=> .agg (cs.map (rei fz h n))
  | .tup cs=> .tup (cs.map (rei fz h n))
  | .fn f a b=> .fn f (a.map (rei fz h n)) (b.map (rei fz h n))
  |v=>v
theorem qmk{w:World}{σ:List OB}{h:wh}(H:HR w σ h){fz:Nat->Bool}{ow:Nat->Prop}(how: ∀b,ow b-> ∃(j:Nat) (o:OB),fz j=false∧σ[j]? =some o∧o.blk=some b):
  ∀(n:Nat) {v:AV} {x:Value},VR w σ v x->VI w ow (rei fz h n v) x:=by
 have hown: ∀b,ow b->own σ b:=λb hb=>(how b hb).elim λj ⟨o,_,h1,h2⟩=>⟨j,o,h1,h2⟩
 have still: ∀ {v x},VI w (own σ) v x->VI w ow v x:=λh=>h.mono (λ_ _ _=>rfl) (Nat.le_refl _) (λb hb=> .inl (hown b hb))
 have notown: ∀ {k:Nat} {o:OB} {b:Nat},fz k=true->σ[k]? =some o->o.blk=some b-> ¬ow b:=by
  intro k o b hk ho hb hw;obtain⟨j,o',h1,h2,h3⟩:=how b hw
  have:=H.inj k j o o' b ho h2 hb h3
  subst this;rw[hk]at h1;cases h1
 intro n
 induction n with
 |zero=>intro v x _;exact .undef
 |succ n ih=>
  intro v x hv;cases v with
  |osl k ver sz off len=>
   simp only[rei];split
   ·rename_i hk;have hl:=jZ (k:=k) (ver:=ver) H hv;split
    ·rename_i ve ty cs hg;split
     ·rename_i hc;obtain⟨rfl,hle⟩:=hc;rcases hl (by simp[qH,hg])with⟨o,_,_,_,g4,_⟩|⟨cs',o,b,cap,arr,g1,rfl,g2,g3,g4,g5,g6,g7,g8,g9,g10,g12,g11⟩
      ·rw[qu]at hg;rw[g4]at hg;cases hg
      ·rw[qu,g1]at hg;cases hg;have hlt:=g8.lt;have harr: ∀i j,i<len->j<sz->off+i*sz+j<cs.length:=by
        intro i j hi hj
        have:(i+1)*sz<=len*sz:=Nat.mul_le_mul_right _ hi
        rw[Nat.add_mul,Nat.one_mul]at this;omega
       refine .sl sz b off cap (λi j=>arr.getD (off+i*sz+j) Go.undef) g2 g3 (λ_=>notown hk g5 g7) hlt (λi hi=> ?_) (λi j hi hj=> ?_) (λi j hi hj=> ?_) (λi j c hi hj=> ?_)
       ·have:(i+1)*sz<=len*sz:=Nat.mul_le_mul_right _ hi
        rw[Nat.add_mul,Nat.one_mul]at this;simp;omega
       ·have:=harr i j hi hj
        have h2:off+i*sz+j<arr.size:=by omega
        rw[kh g8];simp[h2]
       ·have:=harr i j hi hj
        have h2:off+i*sz+j<arr.size:=by omega
        exact g12 _ _ this (by simp[h2])
       ·rw[List.getElem?_map,Option.map_eq_some_iff]at hj;obtain⟨c0,hj,rfl⟩:=hj;rw[List.getElem?_take]at hj;split at hj
        ·rename_i hjs;rw[List.getElem?_drop]at hj
         have:=harr i j hi hjs
         have h2:off+i*sz+j<arr.size:=by omega
         exact ih (g11 _ c0 _ hj (by simp[h2]))
        ·cases hj
     ·exact .undef
    ·rename_i ve hg;split
     ·rename_i hc;subst hc;rcases hl (by simp[qH,hg])with⟨o,_,_,_,_,_,_,rfl⟩|⟨cs',o,b,cap,arr,g1,_⟩
      ·exact .nl
      ·rw[qu,g1]at hg;cases hg
     ·exact .undef
    ·exact .undef
   ·exact .undef
  |op k ver off=>
   simp only[rei];split
   ·rename_i hk;split
    ·rename_i cs hc;obtain⟨cs',o,b,arr,g1,rfl,g2,g3,g4,g5,g6,g7,g9,g8⟩:=kH H hv (by simp[hc]);rw[hc]at g1;cases g1;have hlt:=g5.lt;refine .ip b off (λj=>arr.getD (off+j) Go.undef) (notown hk g2 g4) hlt (λj hj=> ?_) (λj hj=> ?_) (λj c hj=> ?_)
     ·simp at hj;have h2:off+j<arr.size:=by omega
      rw[kh g5];simp[h2]
     ·simp at hj;have h2:off+j<arr.size:=by omega
      exact g9 (off+j) _ (by omega) (by simp[h2])
     ·rw[List.getElem?_map,Option.map_eq_some_iff]at hj;obtain⟨c0,hj,rfl⟩:=hj;rw[List.getElem?_drop]at hj
      have:=(List.getElem?_eq_some_iff.1 hj).1
      have h2:off+j<arr.size:=by omega
      exact ih (g8 _ c0 _ hj (by simp[h2]))
    ·exact .undef
   ·exact .undef
  |yld k=>exact .undef
  |mp k ver=>exact .undef
  |gd g v=>exact .undef
  |agg cs=>
   obtain⟨vs,rfl,hl,h1,hv⟩:=qbR hv;refine .agg (by simp[hl]) h1 (λi c x hc hx=> ?_);rw[List.getElem?_map,Option.map_eq_some_iff]at hc;obtain⟨c0,hc,rfl⟩:=hc;exact ih (hv i c0 x hc hx)
  |tup cs=>
   obtain⟨vs,rfl,hl,hv⟩:=qfh hv;refine .tup (by simp[hl]) (λi c x hc hx=> ?_);rw[List.getElem?_map,Option.map_eq_some_iff]at hc;obtain⟨c0,hc,rfl⟩:=hc;exact ih (hv i c0 x hc hx)
  |fn f a b=>
   obtain⟨us,zs,rfl,l1,l2,v1,v2⟩:=qgo hv;refine .fn (by simp[l1]) (by simp[l2]) (λi c x hc hx=> ?_) (λi c x hc hx=> ?_)
   ·rw[List.getElem?_map,Option.map_eq_some_iff]at hc;obtain⟨c0,hc,rfl⟩:=hc;exact ih (v1 i c0 x hc hx)
   ·rw[List.getElem?_map,Option.map_eq_some_iff]at hc;obtain⟨c0,hc,rfl⟩:=hc;exact ih (v2 i c0 x hc hx)
  |undef=>exact still (zZ rfl hv)
  |bool b=>exact still (zZ rfl hv)
  |int k n=>exact still (zZ rfl hv)
  |str s=>exact still (zZ rfl hv)
  |sl n f=>exact still (zZ rfl hv)
  |ip cs=>exact still (zZ rfl hv)
  |nilp=>exact still (zZ rfl hv)
  |nl=>exact still (zZ rfl hv)
  |el=>exact still (zZ rfl hv)
  |nilfn=>exact still (zZ rfl hv)
  |ifc=>exact still (zZ rfl hv)
  |nilif=>exact still (zZ rfl hv)
  |anyb=>exact still (zZ rfl hv)
def frz(fz:Nat->Bool)(h:wh):Nat->AV->AV
 |0,_=> .undef
 |n+1,v=>match v with
  | .osl k ver sz off len=>if fz k then rei fz h (n+1) (.osl k ver sz off len) else .osl k ver sz off len
  | .op k ver off=>if fz k then rei fz h (n+1) (.op k ver off) else .op k ver off
  | .yld k=>if fz k then .undef else .yld k
  | .mp k ver=>if fz k then .undef else .mp k ver
  | .gd g v=> .gd g (frz fz h n v)
  | .agg cs=> .agg (cs.map (frz fz h n))
  | .tup cs=> .tup (cs.map (frz fz h n))
  | .fn f a b=> .fn f (a.map (frz fz h n)) (b.map (frz fz h n))
  |v=>v
theorem qlc{w:World}{σ σ':List OB}{h:wh}(H:HR w σ h){fz:Nat->Bool}(how: ∀b,own σ' b-> ∃(j:Nat) (o:OB),fz j=false∧σ[j]? =some o∧o.blk=some b)
  (hkeep: ∀(j:Nat) (o:OB),fz j=false->σ[j]? =some o->σ'[j]? =some o):
  ∀(n:Nat) {v:AV} {x:Value},VR w σ v x->VR w σ' (frz fz h n v) x:=by
 have hown: ∀b,own σ' b->own σ b:=λb hb=>(how b hb).elim λj ⟨o,_,h1,h2⟩=>⟨j,o,h1,h2⟩
 have still: ∀ {v x},v.still=true->VR w σ v x->VR w σ' v x:=λhs h=> .imm ((zZ hs h).mono (λ_ _ _=>rfl) (Nat.le_refl _) (λb hb=> .inl (hown b hb)))
 intro n
 induction n with
 |zero=>intro v x _;exact .imm .undef
 |succ n ih=>
  intro v x hv;cases v with
  |osl k ver sz off len=>
   simp only[frz];split
   ·exact .imm (qmk H how (n+1) hv)
   ·rename_i hk;cases hv with
    |imm h=>cases h
    |osl o ho hs hle hh=>exact .osl o (hkeep k o (by simpa using hk) ho) hs hle hh
  |op k ver off=>
   simp only[frz];split
   ·exact .imm (qmk H how (n+1) hv)
   ·rename_i hk;cases hv with
    |imm h=>cases h
    |op o ho hs hle hh=>exact .op o (hkeep k o (by simpa using hk) ho) hs hle hh
  |mp k ver=>
   simp only[frz];split
   ·exact .imm .undef
   ·rename_i hk;cases hv with
    |imm h=>cases h
    |mp o ho hs hle hh=>exact .mp o (hkeep k o (by simpa using hk) ho) hs hle hh
  |yld k=>
   simp only[frz];split
   ·exact .imm .undef
   ·rename_i hk;cases hv with
    |imm h=>cases h
    |yld o ho hs hh=>exact .yld o (hkeep k o (by simpa using hk) ho) hs hh
  |gd g v=>
   obtain⟨h1,h2⟩:=qnB hv;exact .gd (λhg=>ih (h1 hg)) h2
  |agg cs=>
   obtain⟨vs,rfl,hl,h1,hv⟩:=qbR hv;refine .agg (by simp[hl]) h1 (λi c x hc hx=> ?_);rw[List.getElem?_map,Option.map_eq_some_iff]at hc;obtain⟨c0,hc,rfl⟩:=hc;exact ih (hv i c0 x hc hx)
  |tup cs=>
   obtain⟨vs,rfl,hl,hv⟩:=qfh hv;refine .tup (by simp[hl]) (λi c x hc hx=> ?_);rw[List.getElem?_map,Option.map_eq_some_iff]at hc;obtain⟨c0,hc,rfl⟩:=hc;exact ih (hv i c0 x hc hx)
  |fn f a b=>
   obtain⟨us,zs,rfl,l1,l2,v1,v2⟩:=qgo hv;refine .fn (by simp[l1]) (by simp[l2]) (λi c x hc hx=> ?_) (λi c x hc hx=> ?_)
   ·rw[List.getElem?_map,Option.map_eq_some_iff]at hc;obtain⟨c0,hc,rfl⟩:=hc;exact ih (v1 i c0 x hc hx)
   ·rw[List.getElem?_map,Option.map_eq_some_iff]at hc;obtain⟨c0,hc,rfl⟩:=hc;exact ih (v2 i c0 x hc hx)
  |undef=>exact still rfl hv
  |bool b=>exact still rfl hv
  |int k n=>exact still rfl hv
  |str s=>exact still rfl hv
  |sl n f=>exact still rfl hv
  |ip cs=>exact still rfl hv
  |nilp=>exact still rfl hv
  |nl=>exact still rfl hv
  |el=>exact still rfl hv
  |nilfn=>exact still rfl hv
  |ifc=>exact still rfl hv
  |nilif=>exact still rfl hv
  |anyb=>exact still rfl hv
theorem VOut.of{n:Nat}{h:wh}{v r:AV}(fuel:Nat)(hv:VLe (frz (λk=>decide (n<=k)) h fuel v) r):VOut n h v r:=by
 intro w σ x H hx;refine hv w _ x (qlc H (λb hb=> ?_) (λj o hj ho=> ?_) fuel hx)
 ·obtain⟨k,o,h1,h2⟩:=hb;rw[List.getElem?_take]at h1;split at h1
  ·exact⟨k,o,by simp;omega,h1,h2⟩
  ·cases h1
 ·rw[List.getElem?_take,if_pos (by simpa using hj)];exact ho
theorem qo3{rs:List RV}{h0 tl:wh}{K:AV->wh->Prop}{t:wi}{r:AV}(hok:kK t (h0++tl) rs)(hK:K r h0)(hv:VLe (frz (λk=>decide (h0.length<=k)) (h0++tl) 8 (qfT (jm t (h0++tl) rs))) r):
  fnQ rs h0 K .ret t (h0++tl):=
 ⟨r,h0,hK,hok,⟨tl,rfl⟩,rfl,λo ho=> .inl ho,VOut.of 8 hv⟩
theorem Wk.temps{t t':wi}{h:wh}(hl:qbb t t'):Wk t h t' h:=by
 intro N w σ a H;refine⟨σ,⟨H.hr,by rw[hl.length];exact H.sz,λi c x hc hx=> ?_,H.df⟩,Ext.refl w σ⟩;obtain⟨b,hb,hle⟩:=hl.get i c hc;exact hle w σ x (H.tm i b x hb hx)
theorem Wk.refl(t:wi)(h:wh):Wk t h t h:=Wk.temps (qbb.refl t)
theorem Wk.trans{t t' t'':wi}{h h' h'':wh}(h1:Wk t h t' h')(h2:Wk t' h' t'' h''):Wk t h t'' h'':=by
 intro N w σ a H;obtain⟨σ',H',e⟩:=h1 N w σ a H;obtain⟨σ'',H'',e'⟩:=h2 N w σ' a H';exact⟨σ'',H'',e.trans e'⟩
def qbU:List Nat->wh->wh
 | [],h=>h
 |k::ks,h=>qbU ks (qt k h (.emp (qo (qu k h)+1)))
def dr:List Nat->wh->Bool
 | [],_=>true
 |k::ks,h=>qz h k&&dr ks (qt k h (.emp (qo (qu k h)+1)))
theorem qeM{w:World}: ∀(ks:List Nat) {σ:List OB} {h:wh},HR w σ h->dr ks h=true-> ∃σ',HR w σ' (qbU ks h)∧Ext w σ w σ'∧
  (∀(j:Nat) (o:OB),j∉ks->σ[j]? =some o->σ'[j]? =some o)∧ ∀b,own σ' b-> ∃(j:Nat) (o:OB),j∉ks∧σ[j]? =some o∧o.blk=some b:=by
 intro ks
 induction ks with
 |nil=>intro σ h H _;exact⟨σ,H,Ext.refl w σ,λ_ _ _ h=>h,λb ⟨j,o,h1,h2⟩=>⟨j,o,by simp,h1,h2⟩⟩
 |cons k ks ih=>
  intro σ h H hs;simp only[dr,Bool.and_eq_true]at hs;obtain⟨o,ho,hver⟩:=jB H hs.1;obtain⟨H1,e1⟩:=H.kill ho;have hs2:=hs.2;rw[hver]at hs2;obtain⟨σ',g1,g2,g3,g4⟩:=ih H1 hs2;have hset: ∀(j:Nat) (o':OB),j≠k->((σ.set k { o with blk:=none,ver:=o.ver+1 })[j]? =some o'↔σ[j]? =some o'):=by
   intro j o' hj;rw[List.getElem?_set_ne (λe=>hj e.symm)]
  refine⟨σ',by simpa[qbU,hver,qt] using g1,e1.trans g2,λj o' hj hjo=> ?_,λb hb=> ?_⟩
  ·simp only[List.mem_cons,not_or]at hj;exact g3 j o' hj.2 ((hset j o' hj.1).2 hjo)
  ·obtain⟨j,o',h1,h2,h3⟩:=g4 b hb
   by_cases e:j=k
   ·subst e;rw[List.getElem?_set_self ((List.getElem?_eq_some_iff.1 ho).1)]at h2;cases h2;cases h3
   ·exact⟨j,o',by simp[e,h1],(hset j o' e).1 h2,h3⟩
theorem Wk.freeze(ks:List Nat){t:wi}{h:wh}(hs:dr ks h=true):Wk t h (t.map (frz (λk=>ks.contains k) h 8)) (qbU ks h):=by
 intro N w σ a H;obtain⟨σ',g1,g2,g3,g4⟩:=qeM ks H.hr hs;refine⟨σ',⟨g1,by simp[H.sz],λi c x hc hx=> ?_,qaH g2 H.df⟩,g2⟩;rw[List.getElem?_map,Option.map_eq_some_iff]at hc;obtain⟨c0,hc,rfl⟩:=hc;exact qlc H.hr (λb hb=>(g4 b hb).elim λj ⟨o,h1,h2,h3⟩=>⟨j,o,by simpa using h1,h2,h3⟩) (λj o hj ho=>g3 j o (by simpa using hj) ho) 8 (H.tm i c0 x hc hx)
theorem VRs.le{w:World}{σ:List OB}{l m:wi}{xs:List Value}(h:qbb l m)(hv:VRs w σ l xs):VRs w σ m xs:=
 ⟨by rw[hv.1,h.length],λi c x hc hx=>(h.get i c hc).elim λa ⟨ha,hle⟩=>hle w σ x (hv.2 i a x ha hx)⟩
theorem ACalls.le{P:Program}{f:FuncId}{args args':wi}{h h':wh}{r r':AV}(hc:ACalls P f args' h r h')(ha:qbb args args')(hr:VLe r r'):ACalls P f args h r' h':=
 ⟨hc.1,λw σ xs H hv=>(hc.2 w σ xs H (hv.le ha)).mono λe w' ⟨v,σ',h1,h2,h3,h4⟩=>⟨v,σ',h1,h2,hr w' σ' v h3,h4⟩⟩
theorem jj.le{P:Program}{f:FuncId}{args args':wi}{h:wh}{R R':AV->wh->Prop}(hc:jj P f args' h R)(ha:qbb args args')(hr: ∀v h',R v h'-> ∃v',VLe v v'∧R' v' h'):jj P f args h R':=
 ⟨hc.1,λw σ xs H hv=>(hc.2 w σ xs H (hv.le ha)).mono λe w' ⟨v,σ',r,h',h0,h1,h2,h3,h4⟩=>(hr r h' h0).elim λr' ⟨hle,h5⟩=>⟨v,σ',r',h',h5,h1,h2,hle w' σ' v h3,h4⟩⟩
def qbT:AV->Bool
 | .bool _| .int .. | .str _| .undef| .nilp| .nl| .nilfn| .nilif| .ifc=>true
 | .agg cs=>flatVs cs
 | .tup cs=>flatVs cs
 |_=>false
where flatVs:wi->Bool
 | []=>true
 |v::r=>qbT v&&flatVs r
theorem U5: ∀ {cs:wi},qbT.flatVs cs=true↔ ∀c∈cs,qbT c=true:=by
 intro cs
 induction cs with
 |nil=>simp[qbT.flatVs]
 |cons c cs ih=>simp[qbT.flatVs,ih]
theorem qvc{w:World}{ow ow':Nat->Prop}{v:AV}{x:Value}(h:VI w ow v x)(hf:qbT v=true):VI w ow' v x:=by
 induction h with
 |undef=>exact .undef
 |bool=>exact .bool
 |int=>exact .int
 |str=>exact .str
 |nilp=>exact .nilp
 |nl=>exact .nl
 |nilfn=>exact .nilfn
 |nilif=>exact .nilif
 |ifc=>exact .ifc
 |anyb=>exact .anyb
 |agg hl h1 h ih=>
  simp only[qbT,U5]at hf;exact .agg hl h1 (λi c x hc hx=>ih i c x hc hx (hf c (List.mem_of_getElem? hc)))
 |tup hl h ih=>
  simp only[qbT,U5]at hf;exact .tup hl (λi c x hc hx=>ih i c x hc hx (hf c (List.mem_of_getElem? hc)))
 |_=>cases hf
theorem ACalls.borrow{P:Program}{f:FuncId}{args:wi}{h:wh}{r:AV}(hc:ACalls P f (args.map (rei (λ_=>true) h 8)) [] r [])(hr:qbT r=true):ACalls P f args h r h:=by
 refine⟨hc.1,λw σ xs H hv=> ?_⟩;have H0:HR w [] []:=⟨rfl,by simp,by simp,by simp⟩
 have h0: ∀b,¬own [] b:=λb ⟨k,o,h1,_⟩=>by simp at h1
 have hv0:VRs w [] (args.map (rei (λ_=>true) h 8)) xs:=⟨by rw[hv.1];simp,λi c x hc hx=>by
  rw[List.getElem?_map,Option.map_eq_some_iff]at hc;obtain⟨c0,hc,rfl⟩:=hc
  exact .imm (qmk H (λb hb=>(h0 b hb).elim) 8 (hv.2 i c0 x hc hx))⟩
 refine (hc.2 w [] xs H0 hv0).mono ?_;rintro e w' ⟨v,σ',rfl,g1,g2,g3⟩;have hσ:σ'= []:=by have:=g1.len;simpa using this
 subst hσ;have hg:w.grownBy w' none:=⟨g3.os,g3.tape,g3.output,g3.size,λb hb _=>g3.keep b hb (h0 b)⟩
 obtain⟨k1,k2⟩:=H.grow hg;refine⟨v,σ,rfl,k1,?_,k2⟩
 have: ∀ {v:AV} {x:Value},VR w' [] v x->qbT v=true->VI w' (own σ) v x:=by
  intro v x hv
  induction hv with
  |imm h=>exact λhf=>qvc h hf
  |agg hl h1 h ih=>
   intro hf;simp only[qbT,U5]at hf;exact .agg hl h1 (λi c x hc hx=>ih i c x hc hx (hf c (List.mem_of_getElem? hc)))
  |tup hl h ih=>
   intro hf;simp only[qbT,U5]at hf;exact .tup hl (λi c x hc hx=>ih i c x hc hx (hf c (List.mem_of_getElem? hc)))
  |_=>intro hf;cases hf
 exact .imm (this g2 hr)
end AF
end
