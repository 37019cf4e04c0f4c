import Derived.Test.YtgoandblgcjleaaGreatDoorK10
import Derived.Test.YtgoandblgcjleaaGreatDoorK3
import Derived.Test.YtgoandblgcjleaaGreatDoorK5
import Derived.Test.YtgoandblgcjleaaGreatDoorK8
import Derived.Test.YtgoandblgcjleaaGreatDoorProg
set_option linter.all false
set_option linter.unusedSimpArgs false
set_option linter.unusedVariables false
set_option linter.unusedSectionVars false
set_option maxHeartbeats 64000000
set_option maxRecDepth 100000
section
open Go Go.Proofs AF HY LN
namespace RC
def qrm(a b:Int):Int:=if a<b then-1 else if b<a then 1 else 0
theorem qC2(a:Int)(h:List AObj):ACalls Tryz.prog 195 [.int .i64 a] h (.bool false) h:=by
 have k:(a=a)=True:=eqt rfl;refine acO qyj ?_;simp (disch:=omega) only[qwL,go_sem]
 repeat' first
  |(apply qd;exact rvk;simp only[go_sem];exact qj)
theorem qDx(a b:Int)(h:List AObj):ACalls Tryz.prog 141 [.int .i64 a,.int .i64 b] h (.int .i64 (qrm a b)) h:=by
 have c1:=fun h=>qC2 a h
 have c2:=fun h=>qC2 b h
 unfold qrm
 by_cases g1:a<b
 ·have k1:(a<b)=True:=eqt g1;rw[ipo g1];refine acO qlB ?_;simp (disch:=omega) only[qoB,go_sem]
  repeat' first
   |((first|refine cA (c1 _) ?_ ?_|refine cA (c2 _) ?_ ?_);exact flk;simp (disch:=omega) only[k1,go_sem])
   |(apply qd;exact rvk;simp only[go_sem];exact qj)
 have k1:(a<b)=False:=eqf g1;rw[ine g1]
 by_cases g2:b<a
 ·have k2:(b<a)=True:=eqt g2;rw[ipo g2];refine acO qlB ?_;simp (disch:=omega) only[qoB,go_sem]
  repeat' first
   |((first|refine cA (c1 _) ?_ ?_|refine cA (c2 _) ?_ ?_);exact flk;simp (disch:=omega) only[k1,k2,go_sem])
   |(apply qd;exact rvk;simp only[go_sem];exact qj)
 ·have k2:(b<a)=False:=eqf g2;rw[ine g2];refine acO qlB ?_;simp (disch:=omega) only[qoB,go_sem]
  repeat' first
   |((first|refine cA (c1 _) ?_ ?_|refine cA (c2 _) ?_ ?_);exact flk;simp (disch:=omega) only[k1,k2,go_sem])
   |(apply qd;exact rvk;simp only[go_sem];exact qj)
end RC
end
section
namespace RC
variable {α : Type}
def qdj(lt:α→α→Bool)(x:α):List α→List α
 | []=> [x]
 |y::r=>if lt x y=true then y::qdj lt x r else x::y::r
def qfu(lt:α→α→Bool):List α→List α→List α
 |acc,[]=>acc
 |acc,x::r=>qfu lt (qdj lt x acc) r
def qwg(lt:α→α→Bool):Prop:= ∀a b c,lt a b=false→lt b c=false→lt a c=false
def Asy(lt:α→α→Bool):Prop:= ∀a b,lt a b=true→lt b a=false
def qv4(lt:α→α→Bool)(l:List α):Prop:=l.Pairwise fun a b=>lt a b=false
theorem qpB{lt:α→α→Bool}{x:α}: ∀ {l:List α} {z:α},z∈qdj lt x l↔z=x∨z∈l:=by
 intro l
 induction l with
 |nil=>intro z;simp[qdj]
 |cons y r ih=>
  intro z;unfold qdj;split
  ·simp only[List.mem_cons,ih];constructor
   ·rintro (h|h|h)
    ·exact .inr (.inl h)
    ·exact .inl h
    ·exact .inr (.inr h)
   ·rintro (h|h|h)
    ·exact .inr (.inl h)
    ·exact .inl h
    ·exact .inr (.inr h)
  ·simp
theorem qcY{lt:α→α→Bool}(hn:qwg lt)(ha:Asy lt){x:α}: ∀ {l:List α},qv4 lt l→qv4 lt (qdj lt x l):=by
 intro l
 induction l with
 |nil=>intro _;exact List.pairwise_singleton _ _
 |cons y r ih=>
  intro h;obtain⟨h1,h2⟩:=List.pairwise_cons.1 h;unfold qdj
  by_cases g:lt x y=true
  ·rw[ipo g];refine List.pairwise_cons.2 ⟨fun z hz=> ?_,ih h2⟩;rcases qpB.1 hz with rfl|hz
   ·exact ha _ _ g
   ·exact h1 z hz
  ·rw[ine g];have g:lt x y=false:=by simpa using g
   refine List.pairwise_cons.2 ⟨fun z hz=> ?_,h⟩;rcases List.mem_cons.1 hz with rfl|hz
   ·exact g
   ·exact hn _ _ _ g (h1 z hz)
theorem qlT{lt:α→α→Bool}{x:α}{l:List α}(h: ∀z∈l,lt x z=false):qdj lt x l=x::l:=by
 cases l with
 |nil=>rfl
 |cons y r=>
  unfold qdj;rw[ine (by rw[h y (by simp)];simp)]
theorem qf5{lt:α→α→Bool}(hn:qwg lt)(p:α→Bool)(x:α): ∀ {l:List α},qv4 lt l→(qdj lt x l).filter p=if p x=true then qdj lt x (l.filter p) else l.filter p:=by
 intro l
 induction l with
 |nil=>intro _;unfold qdj;by_cases h:p x=true<;>simp[h,qdj]
 |cons y r ih=>
  intro h;obtain⟨h1,h2⟩:=List.pairwise_cons.1 h
  by_cases g:lt x y=true
  ·have e:qdj lt x (y::r)=y::qdj lt x r:=by rw[qdj,ipo g]
   rw[e,List.filter_cons,List.filter_cons,ih h2]
   by_cases hy:p y=true
   ·rw[ipo hy,ipo hy]
    by_cases hx:p x=true
    ·rw[ipo hx,ipo hx,qdj,ipo g]
    ·rw[ine hx,ine hx]
   ·rw[ine hy,ine hy]
  ·have e:qdj lt x (y::r)=x::y::r:=by rw[qdj,ine g]
   have g:lt x y=false:=by simpa using g
   rw[e]
   by_cases hx:p x=true
   ·rw[ipo hx,List.filter_cons,ipo hx,qlT];intro z hz;rcases List.mem_cons.1 (List.mem_filter.1 hz).1 with rfl|hz
    ·exact g
    ·exact hn _ _ _ g (h1 z hz)
   ·rw[ine hx,List.filter_cons,ine hx]
theorem qeV{lt:α→α→Bool}(hn:qwg lt)(ha:Asy lt)(p:α→Bool): ∀(l acc:List α),qv4 lt acc→(qfu lt acc l).filter p=qfu lt (acc.filter p) (l.filter p):=by
 intro l
 induction l with
 |nil=>intro acc _;rfl
 |cons x r ih=>
  intro acc h;rw[qfu,ih _ (qcY hn ha h),qf5 hn p x h,List.filter_cons]
  by_cases hx:p x=true
  ·rw[ipo hx,ipo hx,qfu]
  ·rw[ine hx,ine hx]
theorem qfv{lt:α→α→Bool}(hn:qwg lt)(ha:Asy lt): ∀(l acc:List α),qv4 lt acc→qv4 lt (qfu lt acc l):=by
 intro l
 induction l with
 |nil=>intro acc h;exact h
 |cons x r ih=>intro acc h;exact ih _ (qcY hn ha h)
end RC
end
section
namespace RC
variable {α : Type}
end RC
end
section
open Go Go.Proofs AF HY LN
namespace RC
theorem qbc{a b:En}:qgR a b=true↔a.frm<b.frm∨a.frm=b.frm∧a.to<b.to:=by
 unfold qgR;simp[Bool.or_eq_true,Bool.and_eq_true]
theorem qbF{a b:En}:qgR a b=false↔b.frm<a.frm∨a.frm=b.frm∧b.to≤a.to:=by
 have:= @qbc a b
 cases h:qgR a b with
 |true=>rw[h]at this;simp only[true_iff]at this;simp only[Bool.true_eq_false,false_iff];omega
 |false=>rw[h]at this;simp only[Bool.false_eq_true,false_iff]at this;simp only[true_iff];omega
theorem qgT:qwg qgR:=by
 intro a b c h1 h2;rw[qbF]at*;omega
theorem qgS:Asy qgR:=by
 intro a b h;rw[qbc]at h;rw[qbF];omega
def qwe(l:List En):List En:=(qfu qgR [] l).reverse
def qDM(names:List Str)(gs:List Gr)(src:Int)(e:En):Bool:=decide (0≤vIx names gs e src)
def ofE(names:List Str)(gs:List Gr)(l:List En)(src:Int):List En:=(qwe l).filter (qDM names gs src)
theorem qlU{α:Type}{lt:α→α→Bool}{x:α}: ∀l:List α,(qdj lt x l).Perm (x::l):=by
 intro l
 induction l with
 |nil=>exact List.Perm.refl _
 |cons y r ih=>
  unfold qdj;split
  ·exact (List.Perm.cons y ih).trans (List.Perm.swap x y r)
  ·exact List.Perm.refl _
theorem qiX{α:Type}{lt:α→α→Bool}: ∀l acc:List α,(qfu lt acc l).Perm (acc++l):=by
 intro l
 induction l with
 |nil=>intro acc;rw[List.append_nil];exact List.Perm.refl _
 |cons x r ih=>
  intro acc;refine (ih _).trans ((List.Perm.append_right r (qlU acc)).trans ?_);exact (List.perm_middle (a:=x) (l₁:=acc) (l₂:=r)).symm
theorem qfx(l:List En):(qwe l).Perm l:=(List.reverse_perm _).trans (by simpa using qiX (lt:=qgR) l [])
theorem qgu(l:List En):(qwe l).Pairwise fun a b=>qgR b a=false:=by
 unfold qwe;rw[List.pairwise_reverse];exact qfv qgT qgS l [] List.Pairwise.nil
def qcO(a b:En):Bool:=decide (b.frm<a.to)||decide (a.frm=b.frm)&&decide (a.to=b.to)
def qav:List En→Bool
 |a::b::r=>qcO a b||qav (b::r)
 |_=>false
theorem qk0(L:List En):qav L=true↔ ∃i,i+1<L.length∧qcO (L.getD i default) (L.getD (i+1) default)=true:=by
 induction L with
 |nil=>simp[qav]
 |cons a L ih=>
  cases L with
  |nil=>simp[qav]
  |cons b r=>
   rw[qav,Bool.or_eq_true,ih];constructor
   ·rintro (h|⟨i,h1,h2⟩)
    ·exact⟨0,by simp,h⟩
    ·exact⟨i+1,by simpa using h1,h2⟩
   ·rintro⟨i,h1,h2⟩;cases i with
    |zero=>exact .inl h2
    |succ i=>exact .inr ⟨i,by simpa using h1,h2⟩
def qgP(names:List Str)(gs:List Gr)(l:List En):Bool:=qZ (fun s=>qav (ofE names gs l (s:Int))) names.length
def kh(L:List En):List AV:=L.flatMap enC
theorem qcQ(e:En):(enC e).length=6:=rfl
theorem qaH(L:List En):(kh L).length=L.length*6:=by
 unfold kh
 induction L with
 |nil=>rfl
 |cons a L ih=>rw[List.flatMap_cons,List.length_append,ih,List.length_cons,qcQ];omega
theorem qd5(A B:List En):kh (A++B)=kh A++kh B:=by simp[kh]
theorem qg1(a:En):kh [a]=enC a:=by simp[kh]
theorem qlj(L:List En): ∀i,(kh L).take (i*6)=kh (L.take i):=by
 induction L with
 |nil=>intro i;simp[kh]
 |cons a L ih=>
  intro i;cases i with
  |zero=>simp[kh]
  |succ i=>
   have e:kh (a::L)=enC a++kh L:=rfl;rw[List.take_succ_cons,e,List.take_append,qcQ,show (i+1)*6-6=i*6 by omega,ih];rw[ltl (by rw[qcQ];omega)];rfl
theorem qeU(L:List En): ∀i,(kh L).drop (i*6)=kh (L.drop i):=by
 induction L with
 |nil=>intro i;simp[kh]
 |cons a L ih=>
  intro i;cases i with
  |zero=>simp
  |succ i=>
   have e:kh (a::L)=enC a++kh L:=rfl;rw[List.drop_succ_cons,e,List.drop_append,qcQ,show (i+1)*6-6=i*6 by omega,ih];rw[List.drop_eq_nil_of_le (by rw[qcQ];omega)];rfl
theorem qg0{L:List En}{i:Nat}(hi:i<L.length):((kh L).drop (i*6)).take 6=enC (L.getD i default):=by
 rw[qeU,List.drop_eq_getElem_cons hi,gdqA,qY hi];rfl
theorem qo7{L:List En}{i:Nat}(e:En)(hi:i<L.length):(kh L).take (i*6)++enC e++(kh L).drop (i*6+6)=kh (L.set i e):=by
 rw[List.set_eq_take_append_cons_drop,ipo hi,show i*6+6=(i+1)*6 by omega,qlj,qeU,qd5];rw[show e::List.drop (i+1) L= [e]++List.drop (i+1) L from rfl,qd5,qg1,List.append_assoc]
theorem qpm(L:List En):((List.range L.length).flatMap fun i=>enC (L.getD i default))=kh L:=by
 unfold kh;have e:L=(List.range L.length).map fun i=>L.getD i default:=by
  apply List.ext_getElem (by simp);intro i h1 h2;simp[gdqA,h1]
 conv=>rhs;rw[e]
 rw[List.flatMap_map]
theorem qu5(h:List AObj)(L:List En):qs h (jl L)=some (L.length,kh L):=by
 show some (L.length,_)=_;rw[qpm]
theorem qo6(L:List En)(n:Nat): ∀c∈kh L,jb n c=true:=by
 intro c hc;unfold kh at hc;obtain⟨x,_,hx⟩:=List.mem_flatMap.1 hc;unfold enC at hx;simp only[List.mem_cons,List.not_mem_nil,or_false]at hx;rcases hx with rfl|rfl|rfl|rfl|rfl|rfl<;>rfl
theorem qdz{a:En}{r:List En}(h:qav (a::r)=false):qav r=false:=by
 cases r with
 |nil=>rfl
 |cons b r=>rw[qav,Bool.or_eq_false_iff]at h;exact h.2
theorem qns{L:List En}(hs:L.Pairwise fun a b=>qgR b a=false)(hc:qav L=false):L.Pairwise fun a b=>qgR a b=true:=by
 induction L with
 |nil=>exact List.Pairwise.nil
 |cons a r ih=>
  obtain⟨h1,h2⟩:=List.pairwise_cons.1 hs;have h3:=ih h2 (qdz hc);refine List.pairwise_cons.2 ⟨?_,h3⟩;cases r with
  |nil=>intro z hz;cases hz
  |cons b r=>
   have hab:qgR a b=true:=by
    rw[qav,Bool.or_eq_false_iff]at hc;have h5:=hc.1;unfold qcO at h5;rw[Bool.or_eq_false_iff,Bool.and_eq_false_imp,decide_eq_false_iff_not,decide_eq_true_iff,decide_eq_false_iff_not]at h5;have h4:=h1 b (by simp);rw[qbF]at h4;rw[qbc];obtain⟨h5,h6⟩:=h5
    by_cases e:a.frm=b.frm
    ·have:=h6 e;omega
    ·omega
   intro z hz;rcases List.mem_cons.1 hz with rfl|hz
   ·exact hab
   ·have h6:=(List.pairwise_cons.1 h3).1 z hz;rw[qbc]at*;omega
theorem qoQ{L:List En}(hc:qav L=false){i:Nat}(hi:i+1<L.length):(L.getD i default).to≤(L.getD (i+1) default).frm:=by
 cases h:qcO (L.getD i default) (L.getD (i+1) default)with
 |true=>rw[(qk0 L).2 ⟨i,hi,h⟩]at hc;cases hc
 |false=>
  unfold qcO at h;rw[Bool.or_eq_false_iff,decide_eq_false_iff_not]at h;omega
theorem qiC(names:List Str)(gs:List Gr)(l:List En)(src:Int):(ofE names gs l src).Pairwise fun a b=>qgR b a=false:=List.Pairwise.filter _ (qgu l)
theorem qaR{names:List Str}{gs:List Gr}{l:List En}(h:qgP names gs l=false){s:Nat}(hs:s<names.length):qav (ofE names gs l (s:Int))=false:=
 ql.1 h s hs
structure qv2 (names:List Str) (gs:List Gr) (t:List Str) (l:List En):Prop where
 sg:sgE names gs=0
 n:l.length≤4096
 ck: ∀e∈l,qh7 names gs t e=0
 cl:qgP names gs l=false
structure qAV (names:List Str) (gs:List Gr) (t:List Str) (e:En):Prop where
 sg:sgE names gs=0
 tn:t.length≤4096
 tw:jf t=0
 lay:0≤e.layer∧e.layer<16
 rng:0≤e.frm∧e.frm≤e.to∧e.to≤t.length
 sp:0<e.sup.length→e.pos=true
 ne:e.vars.length≠0
 va: ∀i,i<e.vars.length→qfD t e i=0
 es:kQ names gs e.sup=0
 ev: ∀i,i<e.vars.length→kQ names gs (e.vars.getD i default).sigla=0
 tc:(qba names gs e e.vars.length).2=false
theorem qau{names:List Str}{gs:List Gr}{t:List Str}{e:En}:qh7 names gs t e=0↔qAV names gs t e:=by
 unfold qh7;constructor
 ·intro h;split at h
  ·cases h
  rename_i h1;split at h
  ·cases h
  rename_i h2;split at h
  ·cases h
  rename_i h3;split at h
  ·cases h
  rename_i h4;split at h
  ·cases h
  rename_i h5;split at h
  ·cases h
  rename_i h6;split at h
  ·rename_i h7;exact absurd h h7
  rename_i h7;split at h
  ·rename_i h8;exact absurd h h8
  rename_i h8;split at h
  ·rename_i h9;exact absurd h h9
  rename_i h9;split at h
  ·cases h
  rename_i h10;unfold qqs at h4;refine⟨Classical.not_not.1 h1,by omega,Classical.not_not.1 h3,by omega,by omega,fun h=> ?_,h6,jo.1 (Classical.not_not.1 h7),Classical.not_not.1 h8,jo.1 (Classical.not_not.1 h9),?_⟩
  ·cases hp:e.pos with
   |true=>rfl
   |false=>exact absurd ⟨h,hp⟩ h5
  ·rw[qbb]at h10;simpa using h10
 ·rintro⟨h1,h2,h3,h4,h5,h6,h7,h8,h9,h10,h11⟩;have hr: ¬qqs t e:=by unfold qqs;omega
  rw[ine (fun hc=>hc h1),ine (by omega),ine (fun hc=>hc h3),ine hr,ine (by rintro⟨a,b⟩;rw[h6 a]at b;cases b),ine h7,ine (fun hc=>hc (qI (f:=qfD t e) h8)),ine (fun hc=>hc h9),
   ine (fun hc=>hc (qI (f:=fun i=>kQ names gs (e.vars.getD i default).sigla) h10)),ine (by rw[qbb,h11];simp)]
theorem qdU(names:List Str)(gs:List Gr)(e:En): ∀i,(qba names gs e i).2=false→ ∀x:Int,(x∈(qba names gs e i).1↔x∈zN names gs e.sup∨ ∃j,j<i∧x∈zN names gs (e.vars.getD j default).sigla):=by
 intro i
 induction i with
 |zero=>intro _ x;simp[qba]
 |succ i ih=>
  intro h x;rw[qaa]at h ⊢;simp only[Bool.or_eq_false_iff]at h;have hi:=ih h.1 x;have hb1:x∈(qba names gs e i).1→0≤x∧x<64:=fun hx=>jQ (qaD (qsm names gs e i).1).1 x hx
  have hb2:x∈zN names gs (e.vars.getD i default).sigla→0≤x∧x<64:=fun hx=>jQ (qaD (qg5 names gs _).1).1 x hx
  have hm:x∈zD (fun k=>decide ((k:Int)∈(qba names gs e i).1)||decide ((k:Int)∈zN names gs (e.vars.getD i default).sigla)) 64↔x∈(qba names gs e i).1∨x∈zN names gs (e.vars.getD i default).sigla:=by
   unfold zD;rw[List.mem_map];constructor
   ·rintro⟨k,hk,rfl⟩
    have:=(List.mem_filter.1 hk).2
    simpa[Bool.or_eq_true] using this
   ·intro hx;have hb:0≤x∧x<64:=hx.elim hb1 hb2;refine⟨x.toNat,List.mem_filter.2 ⟨List.mem_range.2 (by omega),?_⟩,by simp;omega⟩;rw[show ((x.toNat:Nat):Int)=x by omega];simpa[Bool.or_eq_true] using hx
  simp only[hm,hi];constructor
  ·rintro ((h|⟨j,hj,hx⟩)|hx)
   ·exact .inl h
   ·exact .inr ⟨j,by omega,hx⟩
   ·exact .inr ⟨i,by omega,hx⟩
  ·rintro (h|⟨j,hj,hx⟩)
   ·exact .inl (.inl h)
   ·by_cases e':j=i
    ·subst e';exact .inr hx
    ·exact .inl (.inr ⟨j,by omega,hx⟩)
theorem qgN(names:List Str)(gs:List Gr)(e:En){i k:Nat}(hik:i≤k)(h:(qba names gs e k).2=false):(qba names gs e i).2=false:=by
 induction hik with
 |refl=>exact h
 |step _ ih=>rw[qaa]at h;simp only[Bool.or_eq_false_iff]at h;exact ih h.1
theorem qcB{names:List Str}{gs:List Gr}{e:En}{n:Nat}(h:(qba names gs e n).2=false){i k:Nat}(hik:i<k)(hk:k<n){x:Int}(hx:x∈zN names gs (e.vars.getD i default).sigla): ¬x∈zN names gs (e.vars.getD k default).sigla:=by
 have h1:=qgN names gs e (show k+1≤n from hk) h;have h0:=qgN names gs e (show k≤n by omega) h;rw[qaa]at h1;simp only[Bool.or_eq_false_iff,List.any_eq_false]at h1
 have:=h1.2 x ((qdU names gs e k h0 x).2 (.inr ⟨i,hik,hx⟩))
 simpa using this
section
variable {k v w : Nat} {h : List AObj} {o o' : AObj} {ty : TypeId} {cs : List AV}
end
end RC
end
section
open Go Go.Proofs AF HY LN
namespace AF
theorem Wk.cells{t:List AV}{h:List AObj}{j v:Nat}{ty:TypeId}{cs cs':List AV}(hj:getO j h=some (.mem v ty cs))(hc:qbD cs cs'):Wk t h t (setO j h (.mem v ty cs')):=by
 intro N w σ a H;have hjl:j<σ.length:=by rw[H.hr.len];exact jp hj
 have ho:=qY hjl;obtain⟨m1,m2,b,arr,m3,m4,m5,m6,m7,m8⟩:=H.hr.obj j _ _ hj ho;have q:=H.hr.recell (cs':=cs') hj ho m3 m4 m5 (by rw[hc.length];exact m6) (fun i x hi hx=>m7 i x (by rw[←hc.length];exact hi) hx) (fun i c x hi hx=>by
  obtain⟨c0,h1,h2⟩:=hc.get i c hi
  exact h2 _ _ _ (m8 i c0 x h1 hx))
 exact⟨σ,⟨q,H.sz,H.tm,H.df⟩,Ext.refl _ _⟩
end AF
namespace RC
theorem qlW{L:List En}(h:L≠ []):valP (.isnil .slice false) [jl L]= .bool false:=by
 unfold jl;rw[qbz,ine (by simpa using h)];rfl
theorem qDu(L:List En)(h:List AObj)(k:Nat)(hk:qH h k=true)(h0:L≠ [])(hl:L.length≤1000000):
  ACalls Tryz.prog 68 [jl L] h (.osl k (qr (getO k h)+1) 6 0 L.length) (setO k h (.mem (qr (getO k h)+1) 58 (kh L))):=by
 have s1:=fun h=>qu5 h L
 have eP:=qaH L;have hp:=List.length_pos_iff.2 h0;have z0:=qlW h0;have z1:okP (.isnil .slice false) [jl L]=True:=eqt trivial;refine qsl qBz k (by simp) ?_;simp only[List.length_cons,List.length_nil,Nat.reduceAdd,Nat.reduceSub,List.replicate,List.cons_append,List.nil_append];simp (disch:=omega) only[qCL,s1,z0,z1,go_sem]
 repeat' first
  |(with_reducible apply aiA)
 all_goals first
  |omega
  |contradiction
  |skip
 ·rfl
 exact⟨h.length+1,2,6,0,L.length,58,kh L,_,⟨trivial,trivial⟩,rfl,rfl,by omega,by simp only[go_sem],qo6 L _,hk,rfl,rfl⟩
end RC
end
section
open Go Go.Proofs AF HY LN
namespace RC
def stV(names:List Str)(gs:List Gr)(e:En):AV:= .sl e.vars.length fun j=> [qn (zN names gs (e.vars.getD j default).sigla)]
def msV(names:List Str)(gs:List Gr)(L:List En):AV:= .sl L.length fun i=> [stV names gs (L.getD i default)]
theorem qpi(names:List Str)(gs:List Gr)(e:En):(stV names gs e).flag=true:=rfl
theorem qny(names:List Str)(gs:List Gr)(e:En):(stV names gs e).strip=stV names gs e:=rfl
theorem qpg(names:List Str)(gs:List Gr)(L:List En):(msV names gs L).flag=true:=rfl
theorem qnw(names:List Str)(gs:List Gr)(L:List En):(msV names gs L).strip=msV names gs L:=rfl
theorem qtW{fz:Nat→Bool}{h:List AObj}{n:Nat}(names:List Str)(gs:List Gr)(e:En):frz fz h (n+1) (stV names gs e)=stV names gs e:=rfl
theorem quO{fz:Nat→Bool}{h:List AObj}{n:Nat}(names:List Str)(gs:List Gr)(e:En):rei fz h (n+1) (stV names gs e)=stV names gs e:=rfl
theorem qtV{fz:Nat→Bool}{h:List AObj}{n:Nat}(names:List Str)(gs:List Gr)(L:List En):frz fz h (n+1) (msV names gs L)=msV names gs L:=rfl
theorem quN{fz:Nat→Bool}{h:List AObj}{n:Nat}(names:List Str)(gs:List Gr)(L:List En):rei fz h (n+1) (msV names gs L)=msV names gs L:=rfl
attribute [go_sem] qpi qny qpg qnw qtW quO qtV quN
end RC
end
section
open Go Go.Proofs AF HY LN
namespace AF
theorem qa1{P:Program}{f:FuncId}{cap:List AV}{xs:List (List AV)}(hf:qv1 P f cap xs){ps:List Nat}{b:Nat}{x y:C}{Q:Ex→Nx}{ts:List AV}{h:List AObj}(hps: ∀a∈xs,a.length=ps.length)
  (S:Nat→List AObj→Prop) (E:Ex→List AObj→Prop) (hS: ∀i hh,S i hh→LowI h hh) (hE: ∀s hh,E s hh→LowI h hh)
  (start:S 0 h) (hts: ∀c∈ts,jb (h.length+1) c=true)
  (body: ∀i hh tl L TS,(hi:i<xs.length)→S i hh→hh.length=h.length→ ∀(K:Nx) (K2:Ex→Nx),
   (∀t2 X hm,X=hm++ .lp .ready TS L::tl→hm.length=h.length→qW P b y K2 t2 (hm++ .lp .busy TS L::tl)→K t2 X)→
   (∀t3 X hh',X=hh'++ .lp .busy TS L::tl→hh'.length=h.length→S (i+1) hh'→K2 .normal t3 X)→
   (∀t3 X hh',X=hh'++ .lp .busy TS L::tl→hh'.length=h.length→E .ret hh'→K2 .ret t3 X)→
   (∀id t3 X hh',X=hh'++ .lp .busy TS L::tl→hh'.length=h.length→E (.exit id) hh'→K2 (.exit id) t3 X)→
   qW P b x (Ex.andThen K (fun _ _ _=>False)) (qco ts ps (xs[i])) (hh++ .lp .ready TS L::tl))
  (done: ∀hh,S xs.length hh→Q .normal ts hh) (doneE: ∀e hh,E e hh→match e with
   | .normal=>False
   |e=>Q e ts hh):
  qfm P (.fn (.func f) [] cap) ps (qW P b x) (qW P b y) Q ts h:=by
 intro L hy;show jB _ _ _ _ _;have key:=hf h ts L S (fun s hh=>match s with
  | .ret=>E .ret hh
  | .exit id=>E (.exit id) hh
  |_=>False) hS
  (by
   intro s hh hs;cases s with
   |ret=>exact hE _ _ hs
   |exit id=>exact hE _ _ hs
   |ready=>exact hs.elim
   |busy=>exact hs.elim)
  (by
   intro i hh tl hi i4;have hlen:=(hS _ _ i4).1;refine hy h.length ts _ _ _ (kS hlen) (hps _ (List.getElem_mem hi)) ?_;refine qaF (Q:=Ex.andThen (fun t2 h2=> ∃hm,hm.length=h.length∧h2=hm++ .lp .ready ts L::tl∧
    qW P b y (fun e t3 h3=> ∃hh',h3=hh'++ .lp .busy ts L::tl∧hh'.length=h.length∧match e with
     | .normal=>S (i+1) hh'
     | .ret=>E .ret hh'
     | .exit id=>E (.exit id) hh') t2 (hm++ .lp .busy ts L::tl)) (fun _ _ _=>False)) ?_
    (body i hh tl L ts hi i4 hlen _ _ (fun t2 X hm e1 e2 e3=>⟨hm,e2,e1,e3⟩) (fun t3 X hh' e1 e2 e3=>⟨hh',e1,e2,e3⟩) (fun t3 X hh' e1 e2 e3=>⟨hh',e1,e2,e3⟩) (fun id t3 X hh' e1 e2 e3=>⟨hh',e1,e2,e3⟩))
   intro e t2 h2 hq;cases e with
   |ret=>exact hq.elim
   |exit id=>exact hq.elim
   |normal=>
    obtain⟨hm,hml,rfl,h3⟩:=hq;refine⟨rfl,⟨ts,kS hml⟩,fun ts' hts'=> ?_⟩;rw[kS hml]at hts';cases hts';rw[qcg hml];refine qaF ?_ h3;rintro e t3 h3' ⟨hh',rfl,g1,g2⟩;refine⟨ts,kS g1,?_⟩;cases e with
    |normal=>exact⟨hh',.inl ⟨rfl,g2,qcg g1⟩⟩
    |ret=>exact⟨hh',.inr ⟨.ret,rfl,g2,qcg g1⟩⟩
    |exit id=>exact⟨hh',.inr ⟨.exit id,rfl,g2,qcg g1⟩⟩)
  start hts
 refine key.le (qbD.refl _) ?_;rintro v h' ⟨hh,⟨g1,rfl⟩|⟨s,g1,rfl⟩⟩
 ·have hl:=hS _ _ g1;exact⟨v,qj,hh,.ready,ts,L,rfl,hl.1,fun o ho=>(hl.2 o ho).imp (fun h=>h) And.left,done hh g1⟩
 ·cases s with
  |ready=>exact g1.elim
  |busy=>exact g1.elim
  |ret=>
   have hl:=hE _ _ g1;exact⟨v,qj,hh,.ret,ts,L,rfl,hl.1,fun o ho=>(hl.2 o ho).imp (fun h=>h) And.left,doneE _ _ g1⟩
  |exit id=>
   have hl:=hE _ _ g1;exact⟨v,qj,hh,.exit id,ts,L,rfl,hl.1,fun o ho=>(hl.2 o ho).imp (fun h=>h) And.left,doneE _ _ g1⟩
end AF
namespace RC
theorem qec(n:Nat)(L:List Str):jb n (strs L)=true:=rfl
end RC
end
section
open Go Go.Proofs AF HY LN
namespace AF
theorem Wk.ownNil{t:List AV}{h:List AObj}{j v i k ve sz:Nat}{ty:TypeId}{cs:List AV}(hj:getO j h=some (.mem v ty cs))(hi:cs[i]? =some .nl)(hk:getO k h=some (.emp ve)):
  Wk t h t (setO j h (.mem v ty (cs.set i (.osl k ve sz 0 0)))):=by
 intro N w σ a H;have hjl:j<σ.length:=by rw[H.hr.len];exact jp hj
 have hkl:k<σ.length:=by rw[H.hr.len];exact jp hk
 have ho:=qY hjl;have hok:=qY hkl;obtain⟨e1,e2⟩:=H.hr.obj k _ _ hk hok;obtain⟨m1,m2,b,arr,m3,m4,m5,m6,m7,m8⟩:=H.hr.obj j _ _ hj ho;have q:=H.hr.recell (cs':=cs.set i (.osl k ve sz 0 0)) hj ho m3 m4 m5 (by simpa using m6) (fun n x hn hx=>m7 n x (by simpa using hn) hx) (fun n c x hn hx=>by
  rw[List.getElem?_set]at hn;split at hn
  ·rename_i e;subst e;split at hn
   ·cases hn;have hv:=m8 i _ x hi hx;cases hv with
    |imm hv=>
     cases hv;exact .osl _ hok ⟨none,0,0,rfl⟩ (Nat.le_of_eq e1.symm) (fun _=> .inl ⟨e2,rfl,rfl,rfl⟩)
   ·cases hn
  ·exact m8 n c x hn hx)
 exact⟨σ,⟨q,H.sz,H.tm,H.df⟩,Ext.refl _ _⟩
end AF
namespace RC
structure qDc (t:List Str) (L:List En):Prop where
 rg: ∀i,i<L.length→0≤(L.getD i default).frm∧(L.getD i default).frm≤(L.getD i default).to∧(L.getD i default).to≤t.length
 nx: ∀i,i+1<L.length→(L.getD i default).to≤(L.getD (i+1) default).frm
theorem qul{names:List Str}{gs:List Gr}{l:List En}{src:Int}{e:En}(h:e∈ofE names gs l src):e∈l:=(qfx l).subset (List.mem_filter.1 h).1
theorem qbi{L:List En}{i:Nat}(hi:i<L.length):L.getD i default∈L:=by
 rw[gdqA,qY hi];exact List.getElem_mem hi
theorem qv2.tx{names:List Str}{gs:List Gr}{t:List Str}{l:List En}(h:qv2 names gs t l){s:Nat}(hs:s<names.length):qDc t (ofE names gs l (s:Int)):=
 ⟨fun i hi=>(qau.1 (h.ck _ (qul (qbi hi)))).rng,fun i hi=>qoQ (qaR h.cl hs) hi⟩
end RC
end
section
open Go Go.Proofs AF HY LN
namespace RC
def qu8(L:List (List Str)):AV:= .sl L.length fun i=> [strs (L.getD i [])]
theorem qio(L:List (List Str)):(qu8 L).flag=true:=rfl
theorem qgz(L:List (List Str)):(qu8 L).strip=qu8 L:=rfl
attribute [go_sem] qio qgz
theorem jR(L:List Str):(jn L).length=L.length:=by simp[jn]
theorem qcA(L M:List Str):jn (L++M)=jn L++jn M:=by simp[jn]
theorem qqO{L:List Str}:jn L= []↔L= []:=by simp[jn]
theorem qqQ{L:List Str}{n:Nat}(g:AV→AV)(hg: ∀s,g (.str s)= .str s)(hn:n=L.length):VLe (.sl n fun i=>(((jn L).drop i).take 1).map g) (strs L):=by
 subst hn;refine VLe.sl_eq rfl (fun i hi=> ?_);unfold jn;rw[←List.map_drop,List.drop_eq_getElem_cons hi,List.map_cons,List.take_succ_cons,List.take_zero,List.map_cons,List.map_nil,hg,gdqA,qY hi];rfl
theorem qpo{α β:Type}(f:α→β)(L:List α):L.flatMap (fun i=> [f i])=L.map f:=by
 induction L with
 |nil=>rfl
 |cons a L ih=>rw[List.flatMap_cons,ih];rfl
theorem qnn(h:List AObj){t:List Str}{a b:Nat}(h1:a≤b)(h2:b≤t.length):qs h (.sl (b-a) fun i=> [.str (t.getD (a+i) [])])=some (b-a,jn (qa7 t a b)):=by
 show some (b-a,(List.range (b-a)).flatMap fun i=> [AV.str (t.getD (a+i) [])])=_;rw[qpo (fun i=>AV.str (t.getD (a+i) []))];congr 2;unfold jn qa7;apply List.ext_getElem
 ·simp;omega
 ·intro i g1 g2;have hi:i<b-a:=by simpa using g1
  have hl:a+i<t.length:=by omega
  simp[gdqA,hl]
theorem qqN(h:List AObj)(t:List Str):qs h (strs t)=some (t.length,jn t):=by
 have:=qnn h (t:=t) (a:=0) (b:=t.length) (nzl _) (nlr _)
 simp only[Nat.sub_zero,Nat.zero_add]at this;have e:qa7 t 0 t.length=t:=by simp[qa7]
 rw[e]at this;exact this
def gwB(ws:List Str)(n:Nat):Bool:=qZ (fun i=>decide (20<(ws.getD i []).length)) ws.length||decide (n<ws.length)
theorem jv{p:Nat→Bool}{i:Nat}(h: ∀j,j<i→p j=false)(hp:p i=false): ∀j,j<i+1→p j=false:=by
 intro j hj
 by_cases e:j=i
 ·subst e;exact hp
 ·exact h j (by omega)
theorem gwP(ws:List Str)(n:Nat)(h:List AObj)(hn:ws.length≤9223372036854775807):ACalls Tryz.prog 70 [strs ws,.int .i64 n] h (.bool (gwB ws n)) h:=by
 obtain⟨R,hR⟩: ∃R,R=gwB ws n:=⟨_,rfl⟩
 rw[←hR];unfold gwB at hR;refine acO qBB ?_;simp (disch:=omega) only[qCN,strs,go_sem];refine qp (T:=fun i:Nat=>qQ 22 [(0,strs ws),(1,.int .i64 n),(5,.int .i64 i)]) (H:=fun _=>h) (inv:=fun i=>i≤ws.length∧ ∀j,j<i→(fun i=>decide (20<(ws.getD i []).length)) j=false) (m:=fun i=>ws.length-i) 0 ⟨nzl _,fun j hj=>by omega⟩ (Wk.temps ?_) ?_
 ·(simp only[strs,go_sem,qi,qe,qa,qh];try (repeat' first|(with_reducible apply aiA)|(apply qg;omega)|(apply qf;rfl)|exact qj))
 rintro i ⟨i1,i2⟩ K hK
 by_cases hi:i<ws.length
 ·have k1:((i:Int)<ws.length)=True:=eqt (by omega)
  by_cases g:20<(ws.getD i []).length
  ·have hV:R=true:=by rw[hR,qy.2 ⟨i,hi,dqt g⟩];rfl
   obtain⟨s,hs⟩: ∃s,s=ws.getD i []:=⟨_,rfl⟩
   have es:=hs.symm;rw[es]at g;have k2:((20:Int)<s.length)=True:=eqt (by omega);rw[hV];simp (disch:=omega) only[strs,k1,k2,es,go_sem]
   repeat' first
    |(apply qd;exact rvk;simp only[go_sem];exact qj)
    |with_reducible apply aiA
   all_goals try exact clz
  ·have i3:=jv i2 (dqf g);obtain⟨s,hs⟩: ∃s,s=ws.getD i []:=⟨_,rfl⟩
   have es:=hs.symm;rw[es]at g;have k2:((20:Int)<s.length)=False:=eqf (by omega);simp (disch:=omega) only[strs,k1,k2,es,go_sem]
   repeat' first
    |with_reducible apply aiA
   all_goals try exact clz
   refine hK _ _ (i+1) ⟨hi,i3⟩ (by omega) (Wk.temps ?_)
   (simp only[strs,go_sem,qi,qe,qa,qh];try (repeat' first|(with_reducible apply aiA)|(apply qg;omega)|(apply qf;rfl)|exact qj))
 ·have k1:((i:Int)<ws.length)=False:=eqf (by omega);rw[ql.2 (fun j hj=>i2 j (by omega)),Bool.false_or]at hR;have e:decide ((n:Int)<ws.length)=R:=by rw[hR];exact decide_eq_decide.2 (by omega)
  simp (disch:=omega) only[strs,k1,go_sem]
  repeat' first
   |(apply qd;exact rvk;simp only[go_sem];apply qf)
  all_goals try exact clz
def grB(g:Gr):Bool:=decide (20<g.name.length)||decide (40<g.mem.length)
def qlH(names:List Str)(gs:List Gr):Bool:=
 qZ (fun i=>decide (20<(names.getD i []).length)) names.length||(qZ (fun i=>grB (gs.getD i default)) gs.length||
  (((decide (8<names.length)&&decide (names.length≤32))||decide (34<names.length))||(decide (5<gs.length)&&decide (gs.length≤16))||decide (18<gs.length)))
theorem qDI(names:List Str)(gs:List Gr)(h:List AObj)(hn:names.length≤9223372036854775807)(hg:gs.length≤9223372036854775807):ACalls Tryz.prog 69 [strs names,qL gs] h (.bool (qlH names gs)) h:=by
 obtain⟨R,hR⟩: ∃R,R=qlH names gs:=⟨_,rfl⟩
 rw[←hR];unfold qlH at hR;refine acO qBA ?_;simp (disch:=omega) only[qCM,strs,qL,go_sem];refine qp (T:=fun i:Nat=>qQ 69 [(0,strs names),(1,qL gs),(5,.int .i64 i)]) (H:=fun _=>h) (inv:=fun i=>i≤names.length∧ ∀j,j<i→(fun i=>decide (20<(names.getD i []).length)) j=false) (m:=fun i=>names.length-i) 0 ⟨nzl _,fun j hj=>by omega⟩ (Wk.temps ?_) ?_
 ·(simp only[strs,qL,go_sem,qi,qe,qa,qh];try (repeat' first|(with_reducible apply aiA)|(apply qg;omega)|(apply qf;rfl)|exact qj))
 rintro i ⟨i1,i2⟩ K hK
 by_cases hi:i<names.length
 ·have k1:((i:Int)<names.length)=True:=eqt (by omega)
  by_cases g:20<(names.getD i []).length
  ·have hV:R=true:=by rw[hR,qy.2 ⟨i,hi,dqt g⟩];rfl
   obtain⟨s,hs⟩: ∃s,s=names.getD i []:=⟨_,rfl⟩
   have es:=hs.symm;rw[es]at g;have k2:((20:Int)<s.length)=True:=eqt (by omega);rw[hV];simp (disch:=omega) only[strs,qL,k1,k2,es,go_sem]
   repeat' first
    |(apply qd;exact rvk;simp only[go_sem];exact qj)
    |with_reducible apply aiA
   all_goals try exact clz
  ·have i3:=jv i2 (dqf g);obtain⟨s,hs⟩: ∃s,s=names.getD i []:=⟨_,rfl⟩
   have es:=hs.symm;rw[es]at g;have k2:((20:Int)<s.length)=False:=eqf (by omega);simp (disch:=omega) only[strs,qL,k1,k2,es,go_sem]
   repeat' first
    |with_reducible apply aiA
   all_goals try exact clz
   refine hK _ _ (i+1) ⟨hi,i3⟩ (by omega) (Wk.temps ?_)
   (simp only[strs,qL,go_sem,qi,qe,qa,qh];try (repeat' first|(with_reducible apply aiA)|(apply qg;omega)|(apply qf;rfl)|exact qj))
 have k1:((i:Int)<names.length)=False:=eqf (by omega);rw[ql.2 (fun j hj=>i2 j (by omega)),Bool.false_or]at hR;simp (disch:=omega) only[strs,qL,k1,go_sem];refine qp (T:=fun i:Nat=>qQ 69 [(0,strs names),(1,qL gs),(6,.int .i64 i)]) (H:=fun _=>h) (inv:=fun i=>i≤gs.length∧ ∀j,j<i→(fun i=>grB (gs.getD i default)) j=false) (m:=fun i=>gs.length-i) 0 ⟨nzl _,fun j hj=>by omega⟩ (Wk.temps ?_) ?_
 ·(simp only[strs,qL,go_sem,qi,qe,qa,qh];try (repeat' first|(with_reducible apply aiA)|(apply qg;omega)|(apply qf;rfl)|exact qj))
 clear hK K;rintro i ⟨i1,i2⟩ K hK
 by_cases hi:i<gs.length
 ·have k1:((i:Int)<gs.length)=True:=eqt (by omega);have hit:grB (gs.getD i default)=true→R=true:=fun hc=>by rw[hR,qy.2 ⟨i,hi,hc⟩];rfl
  have i3:=fun hc=>jv (p:=fun i=>grB (gs.getD i default)) i2 hc
  obtain⟨g,hg⟩: ∃g,g=gs.getD i default:=⟨_,rfl⟩
  have eg:=hg.symm;simp only[eg]at hit i3;have hB:grB g=(decide (20<g.name.length)||decide (40<g.mem.length)):=rfl
  by_cases g1:20<g.name.length
  ·have k2:((20:Int)<g.name.length)=True:=eqt (by omega);rw[hit (by rw[hB,dqt g1];rfl)];simp (disch:=omega) only[strs,qL,grC,k1,k2,eg,go_sem]
   repeat' first
    |(apply qd;exact rvk;simp only[go_sem];exact qj)
    |with_reducible apply aiA
   all_goals try exact clz
  ·have k2:((20:Int)<g.name.length)=False:=eqf (by omega)
   by_cases g2:40<g.mem.length
   ·have k3:((40:Int)<g.mem.length)=True:=eqt (by omega);rw[hit (by rw[hB,dqt g2,Bool.or_true])];simp (disch:=omega) only[strs,qL,grC,qn,k1,k2,k3,eg,go_sem]
    repeat' first
     |(apply qd;exact rvk;simp only[go_sem];exact qj)
     |with_reducible apply aiA
    all_goals try exact clz
   ·have k3:((40:Int)<g.mem.length)=False:=eqf (by omega);simp (disch:=omega) only[strs,qL,grC,qn,k1,k2,k3,eg,go_sem]
    repeat' first
     |with_reducible apply aiA
    all_goals try exact clz
    refine hK _ _ (i+1) ⟨hi,i3 (by rw[hB,dqf g1,dqf g2];rfl)⟩ (by omega) (Wk.temps ?_)
    (simp only[strs,qL,go_sem,qi,qe,qa,qh];try (repeat' first|(with_reducible apply aiA)|(apply qg;omega)|(apply qf;rfl)|exact qj))
 have k2:((i:Int)<gs.length)=False:=eqf (by omega);rw[ql.2 (fun j hj=>i2 j (by omega)),Bool.false_or]at hR;have n1:((8:Int)<names.length)=(8<names.length):=propext (by omega);have n2:((names.length:Int)≤32)=(names.length≤32):=propext (by omega);have n3:((34:Int)<names.length)=(34<names.length):=propext (by omega);have n4:((5:Int)<gs.length)=(5<gs.length):=propext (by omega);have n5:((gs.length:Int)≤16)=(gs.length≤16):=propext (by omega);have n6:((18:Int)<gs.length)=(18<gs.length):=propext (by omega);obtain⟨q1,h1⟩: ∃q,q=decide (8<names.length):=⟨_,rfl⟩
 obtain⟨q2,h2⟩: ∃q,q=decide (names.length≤32):=⟨_,rfl⟩
 obtain⟨q3,h3⟩: ∃q,q=decide (34<names.length):=⟨_,rfl⟩
 obtain⟨q4,h4⟩: ∃q,q=decide (5<gs.length):=⟨_,rfl⟩
 obtain⟨q5,h5⟩: ∃q,q=decide (gs.length≤16):=⟨_,rfl⟩
 obtain⟨q6,h6⟩: ∃q,q=decide (18<gs.length):=⟨_,rfl⟩
 have e1:=h1.symm;have e2:=h2.symm;have e3:=h3.symm;have e4:=h4.symm;have e5:=h5.symm;have e6:=h6.symm;rw[e1,e2,e3,e4,e5,e6]at hR;have b1:(q1=true∧q2=true)∨(q1=false∧q2=true)∨(q1=true∧q2=false)∨(q1=false∧q2=false):=by cases q1<;>cases q2<;>simp
 have b4:(q4=true∧q5=true)∨(q4=false∧q5=true)∨(q4=true∧q5=false)∨(q4=false∧q5=false):=by cases q4<;>cases q5<;>simp
 clear h1 h2 h3 h4 h5 h6;rcases b1 with⟨rfl,rfl⟩|⟨rfl,rfl⟩|⟨rfl,rfl⟩|⟨rfl,rfl⟩
 ·skip
  simp only[Bool.true_and,Bool.true_or]at hR;rw[hR];simp (disch:=omega) only[strs,qL,k2,n1,n2,n3,n4,n5,n6,e1,e2,e3,e4,e5,e6,go_sem]
  repeat' first
   |(apply qd;exact rvk;simp only[go_sem];exact qj)
 ·skip
  cases q3 with
  |true=>
   simp only[Bool.false_and,Bool.true_or,Bool.false_or]at hR;rw[hR];simp (disch:=omega) only[strs,qL,k2,n1,n2,n3,n4,n5,n6,e1,e2,e3,e4,e5,e6,go_sem]
   repeat' first
    |(apply qd;exact rvk;simp only[go_sem];exact qj)
  |false=>
   rcases b4 with⟨rfl,rfl⟩|⟨rfl,rfl⟩|⟨rfl,rfl⟩|⟨rfl,rfl⟩
   ·skip
    simp only[Bool.true_and,Bool.false_and,Bool.true_or,Bool.false_or]at hR;rw[hR];simp (disch:=omega) only[strs,qL,k2,n1,n2,n3,n4,n5,n6,e1,e2,e3,e4,e5,e6,go_sem]
    repeat' first
     |(apply qd;exact rvk;simp only[go_sem];exact qj)
   ·skip
    cases q6 with
    |true=>
     simp only[Bool.false_and,Bool.false_or]at hR;rw[hR];simp (disch:=omega) only[strs,qL,k2,n1,n2,n3,n4,n5,n6,e1,e2,e3,e4,e5,e6,go_sem]
     repeat' first
      |(apply qd;exact rvk;simp only[go_sem];exact qj)
    |false=>
     simp only[Bool.false_and,Bool.false_or]at hR;rw[hR];simp (disch:=omega) only[strs,qL,k2,n1,n2,n3,n4,n5,n6,e1,e2,e3,e4,e5,e6,go_sem]
     repeat' first
      |(apply qd;exact rvk;simp only[go_sem];exact qj)
   ·skip
    cases q6 with
    |true=>
     simp only[Bool.true_and,Bool.false_and,Bool.false_or]at hR;rw[hR];simp (disch:=omega) only[strs,qL,k2,n1,n2,n3,n4,n5,n6,e1,e2,e3,e4,e5,e6,go_sem]
     repeat' first
      |(apply qd;exact rvk;simp only[go_sem];exact qj)
    |false=>
     simp only[Bool.true_and,Bool.false_and,Bool.false_or]at hR;rw[hR];simp (disch:=omega) only[strs,qL,k2,n1,n2,n3,n4,n5,n6,e1,e2,e3,e4,e5,e6,go_sem]
     repeat' first
      |(apply qd;exact rvk;simp only[go_sem];exact qj)
   ·skip
    cases q6 with
    |true=>
     simp only[Bool.false_and,Bool.false_or]at hR;rw[hR];simp (disch:=omega) only[strs,qL,k2,n1,n2,n3,n4,n5,n6,e1,e2,e3,e4,e5,e6,go_sem]
     repeat' first
      |(apply qd;exact rvk;simp only[go_sem];exact qj)
    |false=>
     simp only[Bool.false_and,Bool.false_or]at hR;rw[hR];simp (disch:=omega) only[strs,qL,k2,n1,n2,n3,n4,n5,n6,e1,e2,e3,e4,e5,e6,go_sem]
     repeat' first
      |(apply qd;exact rvk;simp only[go_sem];exact qj)
 ·skip
  cases q3 with
  |true=>
   simp only[Bool.true_and,Bool.true_or,Bool.false_or]at hR;rw[hR];simp (disch:=omega) only[strs,qL,k2,n1,n2,n3,n4,n5,n6,e1,e2,e3,e4,e5,e6,go_sem]
   repeat' first
    |(apply qd;exact rvk;simp only[go_sem];exact qj)
  |false=>
   rcases b4 with⟨rfl,rfl⟩|⟨rfl,rfl⟩|⟨rfl,rfl⟩|⟨rfl,rfl⟩
   ·skip
    simp only[Bool.true_and,Bool.true_or,Bool.false_or]at hR;rw[hR];simp (disch:=omega) only[strs,qL,k2,n1,n2,n3,n4,n5,n6,e1,e2,e3,e4,e5,e6,go_sem]
    repeat' first
     |(apply qd;exact rvk;simp only[go_sem];exact qj)
   ·skip
    cases q6 with
    |true=>
     simp only[Bool.true_and,Bool.false_and,Bool.false_or]at hR;rw[hR];simp (disch:=omega) only[strs,qL,k2,n1,n2,n3,n4,n5,n6,e1,e2,e3,e4,e5,e6,go_sem]
     repeat' first
      |(apply qd;exact rvk;simp only[go_sem];exact qj)
    |false=>
     simp only[Bool.true_and,Bool.false_and,Bool.false_or]at hR;rw[hR];simp (disch:=omega) only[strs,qL,k2,n1,n2,n3,n4,n5,n6,e1,e2,e3,e4,e5,e6,go_sem]
     repeat' first
      |(apply qd;exact rvk;simp only[go_sem];exact qj)
   ·skip
    cases q6 with
    |true=>
     simp only[Bool.true_and,Bool.false_or]at hR;rw[hR];simp (disch:=omega) only[strs,qL,k2,n1,n2,n3,n4,n5,n6,e1,e2,e3,e4,e5,e6,go_sem]
     repeat' first
      |(apply qd;exact rvk;simp only[go_sem];exact qj)
    |false=>
     simp only[Bool.true_and,Bool.false_or]at hR;rw[hR];simp (disch:=omega) only[strs,qL,k2,n1,n2,n3,n4,n5,n6,e1,e2,e3,e4,e5,e6,go_sem]
     repeat' first
      |(apply qd;exact rvk;simp only[go_sem];exact qj)
   ·skip
    cases q6 with
    |true=>
     simp only[Bool.true_and,Bool.false_and,Bool.false_or]at hR;rw[hR];simp (disch:=omega) only[strs,qL,k2,n1,n2,n3,n4,n5,n6,e1,e2,e3,e4,e5,e6,go_sem]
     repeat' first
      |(apply qd;exact rvk;simp only[go_sem];exact qj)
    |false=>
     simp only[Bool.true_and,Bool.false_and,Bool.false_or]at hR;rw[hR];simp (disch:=omega) only[strs,qL,k2,n1,n2,n3,n4,n5,n6,e1,e2,e3,e4,e5,e6,go_sem]
     repeat' first
      |(apply qd;exact rvk;simp only[go_sem];exact qj)
 ·skip
  cases q3 with
  |true=>
   simp only[Bool.false_and,Bool.true_or,Bool.false_or]at hR;rw[hR];simp (disch:=omega) only[strs,qL,k2,n1,n2,n3,n4,n5,n6,e1,e2,e3,e4,e5,e6,go_sem]
   repeat' first
    |(apply qd;exact rvk;simp only[go_sem];exact qj)
  |false=>
   rcases b4 with⟨rfl,rfl⟩|⟨rfl,rfl⟩|⟨rfl,rfl⟩|⟨rfl,rfl⟩
   ·skip
    simp only[Bool.true_and,Bool.false_and,Bool.true_or,Bool.false_or]at hR;rw[hR];simp (disch:=omega) only[strs,qL,k2,n1,n2,n3,n4,n5,n6,e1,e2,e3,e4,e5,e6,go_sem]
    repeat' first
     |(apply qd;exact rvk;simp only[go_sem];exact qj)
   ·skip
    cases q6 with
    |true=>
     simp only[Bool.false_and,Bool.false_or]at hR;rw[hR];simp (disch:=omega) only[strs,qL,k2,n1,n2,n3,n4,n5,n6,e1,e2,e3,e4,e5,e6,go_sem]
     repeat' first
      |(apply qd;exact rvk;simp only[go_sem];exact qj)
    |false=>
     simp only[Bool.false_and,Bool.false_or]at hR;rw[hR];simp (disch:=omega) only[strs,qL,k2,n1,n2,n3,n4,n5,n6,e1,e2,e3,e4,e5,e6,go_sem]
     repeat' first
      |(apply qd;exact rvk;simp only[go_sem];exact qj)
   ·skip
    cases q6 with
    |true=>
     simp only[Bool.true_and,Bool.false_and,Bool.false_or]at hR;rw[hR];simp (disch:=omega) only[strs,qL,k2,n1,n2,n3,n4,n5,n6,e1,e2,e3,e4,e5,e6,go_sem]
     repeat' first
      |(apply qd;exact rvk;simp only[go_sem];exact qj)
    |false=>
     simp only[Bool.true_and,Bool.false_and,Bool.false_or]at hR;rw[hR];simp (disch:=omega) only[strs,qL,k2,n1,n2,n3,n4,n5,n6,e1,e2,e3,e4,e5,e6,go_sem]
     repeat' first
      |(apply qd;exact rvk;simp only[go_sem];exact qj)
   ·skip
    cases q6 with
    |true=>
     simp only[Bool.false_and,Bool.false_or]at hR;rw[hR];simp (disch:=omega) only[strs,qL,k2,n1,n2,n3,n4,n5,n6,e1,e2,e3,e4,e5,e6,go_sem]
     repeat' first
      |(apply qd;exact rvk;simp only[go_sem];exact qj)
    |false=>
     simp only[Bool.false_and,Bool.false_or]at hR;rw[hR];simp (disch:=omega) only[strs,qL,k2,n1,n2,n3,n4,n5,n6,e1,e2,e3,e4,e5,e6,go_sem]
     repeat' first
      |(apply qd;exact rvk;simp only[go_sem];exact qj)
theorem qlO{ws:List Str}{n:Nat}(h:gwB ws n=false):ws.length≤n∧ ∀i,(ws.getD i []).length≤20:=by
 unfold gwB at h;rw[Bool.or_eq_false_iff,decide_eq_false_iff_not,ql]at h;refine⟨by omega,fun i=> ?_⟩
 by_cases hi:i<ws.length
 ·have:=of_decide_eq_false (h.1 i hi)
  omega
 ·rw[gdqA,List.getElem?_eq_none (by omega)];exact nzl _
theorem qtY{names:List Str}{gs:List Gr}(h:qlH names gs=false):names.length≤34∧gs.length≤18∧(∀i,(names.getD i []).length≤20)∧ ∀i,(gs.getD i default).name.length≤20∧(gs.getD i default).mem.length≤40:=by
 unfold qlH at h;simp only[Bool.or_eq_false_iff,decide_eq_false_iff_not,ql]at h;obtain⟨h1,h2,⟨⟨_,h3⟩,_⟩,h4⟩:=h;refine⟨by omega,by omega,fun i=> ?_,fun i=> ?_⟩
 ·by_cases hi:i<names.length
  ·have:=h1 i hi
   omega
  ·rw[gdqA,List.getElem?_eq_none (by omega)];exact nzl _
 ·by_cases hi:i<gs.length
  ·have:=h2 i hi
   unfold grB at this;simp only[Bool.or_eq_false_iff,decide_eq_false_iff_not]at this;omega
  ·rw[gdqA,List.getElem?_eq_none (by omega)];exact⟨nzl _,nzl _⟩
end RC
end
section
open Go Go.Proofs AF HY LN
namespace AF
theorem qaK{v:Nat}{ty:TypeId}{cs:List AV}{n:Nat}(h: ∀c∈cs,jb n c=true):qan n (zP v ty cs):=by
 unfold zP;split
 ·trivial
 ·exact h
end AF
namespace RC
theorem qiW(L:List Str):(strs L).solid=true:=rfl
theorem qh6(L:List Str):(strs L).cells= [strs L]:=rfl
theorem qfP{k v z p n:Nat}(L:List Str):qcC (.osl k v z p n) (strs L)=true:=rfl
attribute [go_sem] qiW qh6 qfP
theorem qcz{v:Nat}{L:List Str}{g:AV→AV}{n:Nat}(hg: ∀s,g (.str s)= .str s)(hn:n=L.length):VLe (qeC (some (zP v 9 (jn L))) v 1 0 n g) (strs L):=by
 subst hn
 by_cases h:L= []
 ·subst h;show VLe (qeC (some (.emp v)) v 1 0 0 g) _;rw[slOf_emp,ipo rfl];exact jX
 ·have e0:zP v 9 (jn L)= .mem v 9 (jn L):=jH (fun e=>h (qqO.1 e));rw[e0,slOf_mem,ipo ⟨rfl,by rw[jR];omega⟩];simp only[Nat.zero_add,Nat.mul_one];exact qqQ g hg rfl
end RC
end
section
open Go Go.Proofs AF HY LN
namespace AF
theorem Wk.fzCell{t:List AV}{h:List AObj}{j k i v:Nat}{ty:TypeId}{cs:List AV}{c c':AV}(hj:getO j h=some (.mem v ty cs))(hi:cs[i]? =some c)(hs:qH h k=true)(hne:j≠k)(hc:VLe (frz (fun b=> [k].contains b) h 8 c) c'):
  Wk t h t (setO j (setO k h (.emp (qr (getO k h)+1))) (.mem v ty (cs.set i c'))):=by
 intro N w σ a H;have hs':ke [k] h=true:=by simp[ke,hs]
 obtain⟨σ',g1,g2,g3,g4⟩:=qc2 [k] H.hr hs';have hn:j∉ [k]:=by simp[hne]
 have frzv: ∀c x,VR w σ c x→VR w σ' (frz (fun b=> [k].contains b) h 8 c) x:=fun c x hx=>
  qhg H.hr (fun b hb=>(g4 b hb).elim fun j ⟨o,h1,h2,h3⟩=>⟨j,o,by simpa using h1,h2,h3⟩) (fun j o hj ho=>g3 j o (by simpa using hj) ho) 8 hx
 have hjl:j<σ.length:=by rw[H.hr.len];exact jp hj
 have ho:=qY hjl;obtain⟨m1,m2,b,arr,m3,m4,m5,m6,m7,m8⟩:=H.hr.obj j _ _ hj ho;have q:=g1.recell (cs':=cs.set i c') ((qpF hn).trans hj) (g3 j _ hn ho) m3 m4 m5 (by simpa using m6) (fun n x hn hx=>m7 n x (by simpa using hn) hx) (fun n d x hd hx=>by
  rw[List.getElem?_set]at hd;split at hd
  ·rename_i e;subst e;split at hd
   ·cases hd;exact hc _ _ _ (frzv _ x (m8 i _ x hi hx))
   ·cases hd
  ·exact (m8 n d x hd hx).ext g2)
 exact⟨σ',⟨q,H.sz,fun n d x hd hx=>(H.tm n d x hd hx).ext g2,qaV g2 H.df⟩,g2⟩
theorem qcs{h:List AObj}{k ve sz off n:Nat}:frz (fun b=> [k].contains b) h 8 (.osl k ve sz off n)=qeC (getO k h) ve sz off n (rei (fun b=> [k].contains b) h 7):=by
 rw[frz_osl,ipo (by simp),rei_osl,ipo (by simp)]
end AF
namespace RC
theorem qiU(L:List Gr):(qL L).solid=true:=rfl
theorem qh4(L:List Gr):(qL L).cells= [qL L]:=rfl
theorem qiT(L:List En):(jl L).solid=true:=rfl
theorem qh3(L:List En):(jl L).cells= [jl L]:=rfl
theorem qnf(names:List Str)(gs:List Gr)(e:En):(stV names gs e).solid=true:=rfl
theorem qkW(names:List Str)(gs:List Gr)(e:En):(stV names gs e).cells= [stV names gs e]:=rfl
theorem qnd(names:List Str)(gs:List Gr)(L:List En):(msV names gs L).solid=true:=rfl
theorem qkU(names:List Str)(gs:List Gr)(L:List En):(msV names gs L).cells= [msV names gs L]:=rfl
theorem qgm(L:List Int):(qn L).solid=true:=rfl
theorem qfW(L:List Int):(qn L).cells= [qn L]:=rfl
attribute [go_sem] qiU qh4 qiT qh3 qnf qkW qnd qkU qgm qfW
theorem qqC{v n:Nat}{ty:TypeId}{L:List En}{fz:Nat→Bool}{h:List AObj}{d:Nat}(hn:n=L.length):VLe (qeC (some (.mem v ty (kh L))) v 6 0 n (rei fz h (d+1))) (jl L):=by
 subst hn;rw[slOf_mem,ipo ⟨rfl,by rw[qaH];omega⟩];refine VLe.sl_eq rfl (fun i hi=> ?_);simp only[Nat.zero_add];rw[qg0 hi];rfl
end RC
end
section
open Go Go.Proofs AF HY LN
namespace RC
section
variable (names : List Str) (gs : List Gr) (t : List Str) (l : List En) (src : Int) (h : List AObj)
theorem qaL{v n:Nat}{L:List Int}{g:AV→AV}(hg: ∀s,g (.int .i64 s)= .int .i64 s)(hn:n=L.length):VLe (qeC (some (zP v 3 (qx L))) v 1 0 n g) (qn L):=by
 subst hn
 by_cases h:L= []
 ·subst h;show VLe (qeC (some (.emp v)) v 1 0 0 g) _;rw[slOf_emp,ipo rfl];exact jX
 ·have e0:zP v 3 (qx L)= .mem v 3 (qx L):=jH (fun e=>h (qe8.1 e));rw[e0,slOf_mem,ipo ⟨rfl,by rw[qT];omega⟩];simp only[Nat.zero_add,Nat.mul_one];exact qe9 g hg rfl
end
section
variable (names : List Str) (gs : List Gr) (t : List Str) (l : List En) (src : Int) (h : List AObj)
end
end RC
end
section
open Go Go.Proofs AF HY LN
namespace RC
end RC
namespace RC
end RC
end
section
open Go Go.Proofs AF HY LN
namespace AF
structure qv3 (E:AV) (n:Nat) (cs:List AV):Prop where
 fl:E.flag=true
 st:E.strip=E
 vl: ∀g,valL g .len [E]= .int .i64 n
 ok: ∀g,okL g .len [E]=True
 sc: ∀g,qs g E=some (n,cs)
 ap: ∀k v z p m,qcC (.osl k v z p m) E=true
theorem qv3.sl(n:Nat)(f:Nat→List AV):qv3 (.sl n f) n ((List.range n).flatMap f):=⟨rfl,rfl,fun _=>rfl,fun _=>eqt trivial,fun _=>rfl,fun _ _ _ _ _=>rfl⟩
theorem qDL{P:Program}{f:FuncId}{args:List AV}{h h':List AObj}{r:AV}(ks:List Nat)(hs:ke ks h=true)(hc:ACalls P f (args.map (frz (fun k=>ks.contains k) h 8)) (qc1 ks h) r h'):ACalls P f args h r h':=by
 refine⟨hc.1,fun w σ xs H hv=> ?_⟩;obtain⟨σ',g1,g2,g3,g4⟩:=qc2 ks H hs;refine (hc.2 w σ' xs g1 ⟨by rw[hv.1];simp,fun i c x hcc hx=> ?_⟩).mono ?_
 ·rw[List.getElem?_map,Option.map_eq_some_iff]at hcc;obtain⟨c0,hcc,rfl⟩:=hcc;exact qhg H (fun b hb=>(g4 b hb).elim fun j ⟨o,h1,h2,h3⟩=>⟨j,o,by simpa using h1,h2,h3⟩) (fun j o hj ho=>g3 j o (by simpa using hj) ho) 8 (hv.2 i c0 x hcc hx)
 ·rintro e w' ⟨v,σ2,rfl,k1,k2,k3⟩;exact⟨v,σ2,rfl,k1,k2,g2.trans k3⟩
end AF
namespace RC
theorem qo8{L:List En}{n:Nat}{fz:Nat→Bool}{h:List AObj}{d:Nat}(hn:n=L.length):VLe (.sl n fun i=>(((kh L).drop (i*6)).take 6).map (rei fz h (d+1))) (jl L):=by
 subst hn;refine VLe.sl_eq rfl (fun i hi=> ?_);rw[qg0 hi];rfl
theorem qv3.strs(L:List Str):qv3 (strs L) L.length (jn L):=⟨rfl,rfl,fun _=>rfl,fun _=>eqt trivial,fun g=>qqN g L,fun _ _ _ _ _=>rfl⟩
theorem qv3.sub{t:List Str}{a b:Nat}(h1:a≤b)(h2:b≤t.length):qv3 (.sl (b-a) fun i=> [.str (t.getD (a+i) [])]) (qa7 t a b).length (jn (qa7 t a b)):=by
 rw[qet h1 h2];exact⟨rfl,rfl,fun _=>rfl,fun _=>eqt trivial,fun g=>qnn g h1 h2,fun _ _ _ _ _=>rfl⟩
end RC
end
section
open Go Go.Proofs AF HY LN
namespace RC
def anN(a b:Nat):Nat:=a&&&(2^64-1-b)
theorem qjE(a b:Nat):anN a b≤a:=Nat.and_le_left
theorem qgO{a b:Nat}(ha:a<2^64)(hb:b<2^64):qfO .u64 (a:Int) (b:Int)=((anN a b:Nat):Int):=by
 have hab:=qjE a b;unfold qfO;rw[show IntKind.bits IntKind.u64=64 from rfl,kU,kU,BitVec.toNat_and,BitVec.toNat_not,BitVec.toNat_ofNat,BitVec.toNat_ofNat,Nat.mod_eq_of_lt ha,Nat.mod_eq_of_lt hb];exact qbB (Int.natCast_nonneg _) (by unfold anN at hab;omega)
theorem qdV{a b:Nat}(ha:a<2^64)(hb:b<2^64)(i:Nat):(anN a b).testBit i=(a.testBit i&& !b.testBit i):=by
 unfold anN;rw[Nat.testBit_and,show 2^64-1-b=2^64-(b+1) by omega,Nat.testBit_two_pow_sub_succ hb]
 by_cases hi:i<64
 ·simp[hi]
 ·rw[Nat.testBit_lt_two_pow (Nat.lt_of_lt_of_le ha (Nat.pow_le_pow_right (by omega) (by omega)))];rfl
def qjB(n:Nat):Nat:=(zD n.testBit 64).length
theorem qC3(n:Nat)(h:List AObj)(hn:n<256):ACalls Tryz.prog 199 [.int .u64 (n:Int)] h (.int .i64 (qjB n)) h:=by
 refine acO qym ?_;simp (disch:=omega) only[qwO,go_sem]
 repeat' first
  |(apply qd;exact rvk;simp only[go_sem];apply qg)
  |with_reducible apply aiA
 all_goals try exact clz
 clear h;revert n;decide+kernel
def qes(names:List Str)(gs:List Gr)(set:List Int):Int:=if sgE names gs=0 then qdn names.length set else 1
theorem qEb(names:List Str)(gs:List Gr)(set:List Int)(h:List AObj)(hz:Szs names gs)(hs:set.length≤1000000000):ACalls Tryz.prog 196 [strs names,qL gs,qn set] h (.int .i64 (qes names gs set)) h:=by
 have c59:=fun h=>sgP names gs h hz
 have c92:=fun h=>qC5 set names.length h hs
 have zl: ∀g,valL g .len [strs names]= .int .i64 names.length:=fun _=>rfl
 have zo: ∀g,okL g .len [strs names]=True:=fun _=>eqt trivial
 unfold qes
 by_cases g:sgE names gs=0
 ·rw[ipo g];simp only[g]at c59;refine acO qrD ?_;simp (disch:=omega) only[qsL,go_sem]
  repeat' first
   |((first|refine cA (c59 _) ?_ ?_|refine cA (c92 _) ?_ ?_);exact flk;simp (disch:=omega) only[zl,zo,go_sem])
   |(apply qd;exact rvk;simp only[go_sem];exact qj)
 ·rw[ine g];have k:(sgE names gs=0)=False:=eqf g;refine acO qrD ?_;simp (disch:=omega) only[qsL,go_sem]
  repeat' first
   |(refine cA (c59 _) flk ?_;simp (disch:=omega) only[zl,zo,k,go_sem])
   |(apply qd;exact rvk;simp only[go_sem];exact qj)
theorem qlL{names:List Str}{gs:List Gr}(h:sgE names gs=0)(i:Nat):inB 64 (gs.getD i default).mem:=by
 have h:=qda h
 by_cases hi:i<gs.length
 ·intro j hj
  have:=(qaD (qf6 h hi)).1 j hj
  have:=h.n32
  omega
 ·rw[gdqA,List.getElem?_eq_none (by omega)];intro j hj;exact absurd hj (by simp[show (default:Gr).mem= []from rfl])
def qjw(gs:List Gr)(all:Nat)(i:Nat):Bool:=decide (anN (jA (gs.getD i default).mem) all=0)
def kA(gs:List Gr)(all:Nat):List Int:=zD (qjw gs all) gs.length
theorem qEt(gs:List Gr)(all:Nat)(h:List AObj)(hg:gs.length≤1000000)(hm: ∀i,inB 64 (gs.getD i default).mem)(hl: ∀i,(gs.getD i default).mem.length≤1000000000)(ha:all<2^64):ACalls Tryz.prog 197 [qL gs,.int .u64 (all:Int)] h (qn (kA gs all)) h:=by
 unfold kA;have zl: ∀g,valL g .len [qL gs]= .int .i64 gs.length:=fun _=>rfl
 have zo: ∀g,okL g .len [qL gs]=True:=fun _=>eqt trivial
 refine acO qyk ?_;simp (disch:=omega) only[qwM,zl,zo,go_sem];refine qp (T:=fun i:Nat×Nat×AObj×AObj=>qQ 27 [(1,.int .u64 (all:Int)),(5,.osl (h.length+1) i.2.1 1 0 (zD (qjw gs all) i.1).length),(8,qL gs),(9,.int .i64 gs.length),(10,.int .i64 i.1)])
  (H:=fun i=>h++ [.emp 1,zP i.2.1 3 (qx (zD (qjw gs all) i.1)),i.2.2.1,i.2.2.2,.emp 0])
  (inv:=fun i=>i.1≤gs.length∧qH [i.2.2.1] 0=true∧qH [i.2.2.2] 0=true) (m:=fun i=>gs.length-i.1) (0,1,.emp 0,.emp 0) ⟨nzl _,rfl,rfl⟩ (Wk.temps ?_) ?_
 ·(simp only[zD,List.range_zero,List.filter_nil,List.length_nil,go_sem,qi,qe,qa,qh];try (repeat' first|(with_reducible apply aiA)|(apply qg;omega)|(apply qf;rfl)|exact qj))
 rintro⟨i,v,O2,O3⟩ ⟨i1,i2,i3⟩ K hK;simp only at i1 i2 i3 hK;have i2': ∀m,qH (O2::m) 0=true:=fun _=>i2
 have i3': ∀m,qH (O3::m) 0=true:=fun _=>i3
 have hst:=qbs (qjw gs all) i;have hln:=zk (qjw gs all) i;obtain⟨L,hL⟩: ∃L,L=zD (qjw gs all) i:=⟨_,rfl⟩
 rw[←hL]at hst hln;have eL:=hL.symm;have eC:=qT L
 by_cases hi:i<gs.length
 ·have k1:((i:Int)<gs.length)=True:=eqt (by omega);have c96:=fun h=>qAQ (gs.getD i default).mem h (hl i) (hm i)
  have hlt:=qca (hm i);have hB:qjw gs all i=decide (anN (jA (gs.getD i default).mem) all=0):=rfl;obtain⟨gr,hgr⟩: ∃gr,gr=gs.getD i default:=⟨_,rfl⟩
  have egr:=hgr.symm;simp only[egr]at c96 hB;rw[egr]at hlt;have hd:=qgO hlt ha;obtain⟨q,hq⟩: ∃q,q=anN (jA gr.mem) all:=⟨_,rfl⟩
  rw[←hq]at hd hB;have eTk:List.take L.length (qx L)=qx L:=ltl (by omega)
  by_cases g0:q=0
  ·have k2:((q:Int)=0)=True:=eqt (by omega);rw[ipo (by rw[hB];exact dqt g0)]at hst;simp (disch:=omega) only[qL,grC,k1,i2',eL,egr,go_sem]
   repeat' first
    |(refine cA (c96 _) flk ?_;simp (disch:=omega) only[k2,i3',hd,eC,eTk,Nat.mul_one,go_sem])
    |with_reducible apply aiA
   all_goals try exact clz
   have eA:qx L++ [AV.int .i64 (i:Int)]=qx (zD (qjw gs all) (i+1)):=by rw[hst,jh];rfl
   rw[eA];refine hK _ _ (i+1,v+1,.mem (qr (some O2)+1) 167 (grC gr),.mem (qr (some O3)+1) 3 [.int .i64 (i:Int)]) ⟨hi,rfl,rfl⟩ (by simp only;omega) ?_;simp only[hst,List.length_append,List.length_cons,List.length_nil];refine Wk.temps ?_
   (simp only[go_sem,qi,qe,qa,qh];try (repeat' first|(with_reducible apply aiA)|(apply qg;omega)|(apply qf;rfl)|exact qj))
  ·have k2:((q:Int)=0)=False:=eqf (by omega);rw[ine (by rw[hB];simpa using g0),List.append_nil]at hst;simp (disch:=omega) only[qL,grC,k1,i2',eL,egr,go_sem]
   repeat' first
    |(refine cA (c96 _) flk ?_;simp (disch:=omega) only[k2,hd,go_sem])
    |with_reducible apply aiA
   all_goals try exact clz
   refine hK _ _ (i+1,v,.mem (qr (some O2)+1) 167 (grC gr),O3) ⟨hi,rfl,i3⟩ (by simp only;omega) ?_;simp only[hst];refine Wk.temps ?_
   (simp only[go_sem,qi,qe,qa,qh];try (repeat' first|(with_reducible apply aiA)|(apply qg;omega)|(apply qf;rfl)|exact qj))
 ·obtain rfl:i=gs.length:=by omega
  have k1:((gs.length:Int)<gs.length)=False:=eqf (by omega);rw[eL];simp (disch:=omega) only[k1,go_sem]
  repeat' first
   |(apply qb;exact rvk;simp only[go_sem])
  exact qaL (fun _=>rfl) rfl
def qrn(a b:List Int):Int:=qa9 (fun i=>qrm (a.getD i 0) (b.getD i 0)) 0 a.length
theorem qDw(a b:List Int)(h:List AObj)(hl:a.length=b.length)(ha:a.length≤1000000000):ACalls Tryz.prog 66 [qn a,qn b] h (.int .i64 (qrn a b)) h:=by
 obtain⟨R,hR⟩: ∃R,R=qrn a b:=⟨_,rfl⟩
 rw[←hR];unfold qrn at hR;have z1: ∀g,valL g .len [qn a]= .int .i64 a.length:=fun _=>rfl
 have z2: ∀g,okL g .len [qn a]=True:=fun _=>eqt trivial
 have z3: ∀g,valL g .len [qn b]= .int .i64 a.length:=fun _=>by rw[hl];rfl
 have z4: ∀g,okL g .len [qn b]=True:=fun _=>eqt trivial
 refine acO qBy ?_;simp (disch:=omega) only[qCK,z1,z2,go_sem];refine qp (T:=fun i:Nat=>qQ 36 [(0,qn a),(1,qn b),(9,qn a),(10,.int .i64 a.length),(11,.int .i64 i)]) (H:=fun _=>h) (inv:=fun i=>i≤a.length∧ ∀j,j<i→(fun i=>qrm (a.getD i 0) (b.getD i 0)) j=0) (m:=fun i=>a.length-i) 0 ⟨nzl _,fun j hj=>by omega⟩ (Wk.temps ?_) ?_
 ·(simp only[go_sem,qi,qe,qa,qh];try (repeat' first|(with_reducible apply aiA)|(apply qg;omega)|(apply qf;rfl)|exact qj))
 rintro i ⟨i1,i2⟩ K hK
 by_cases hi:i<a.length
 ·have k1:((i:Int)<a.length)=True:=eqt (by omega);have k2:((a.length:Int)≤i)=False:=eqf (by omega);have k3:((i:Int)<b.length)=True:=eqt (by omega);have hE:=zC (f:=fun i=>qrm (a.getD i 0) (b.getD i 0)) hi i2;have c122:=fun h=>qDx (a.getD i 0) (b.getD i 0) h
  have k4:((b.length:Int)≤i)=False:=eqf (by omega)
  by_cases g:qrm (a.getD i 0) (b.getD i 0)=0
  ·simp only[g]at c122;simp (disch:=omega) only[qn,k1,k3,k4,go_sem]
   repeat' first
    |(refine cA (c122 _) flk ?_;simp (disch:=omega) only[go_sem])
    |with_reducible apply aiA
   all_goals try exact clz
   refine hK _ _ (i+1) ⟨hi,fun j hj=> ?_⟩ (by omega) (Wk.temps ?_)
   ·by_cases e:j=i
    ·subst e;exact g
    ·exact i2 j (by omega)
   ·(simp only[qn,go_sem,qi,qe,qa,qh];try (repeat' first|(with_reducible apply aiA)|(apply qg;omega)|(apply qf;rfl)|exact qj))
  ·have k5:(qrm (a.getD i 0) (b.getD i 0)=0)=False:=eqf g;rw[hR,hE g];simp (disch:=omega) only[qn,k1,k3,k4,go_sem]
   repeat' first
    |(refine cA (c122 _) flk ?_;simp (disch:=omega) only[k5,go_sem])
    |(apply qd;exact rvk;simp only[go_sem];exact qj)
    |with_reducible apply aiA
   all_goals try exact clz
 ·have k1:((i:Int)<a.length)=False:=eqf (by omega);have hz:=qI (f:=fun i=>qrm (a.getD i 0) (b.getD i 0)) (n:=a.length) (fun j hj=>i2 j (by omega));rw[hR,hz];have k2:((a.length:Int)<a.length)=False:=eqf (by omega);simp (disch:=omega) only[z1,z2,z3,z4,k1,go_sem]
  repeat' first
   |(apply qd;exact rvk;simp only[go_sem];first|exact qj|apply qg)
   |with_reducible first|intro _|apply aiA
  all_goals try exact clz
def kk(ms:List Nat):AV:= .sl ms.length fun i=> [.int .u64 ((ms.getD i 0:Nat):Int)]
theorem qip(L:List Nat):(kk L).flag=true:=rfl
theorem qgA(L:List Nat):(kk L).strip=kk L:=rfl
theorem qgp(L:List Nat):(kk L).solid=true:=rfl
theorem qfZ(L:List Nat):(kk L).cells= [kk L]:=rfl
attribute [go_sem] qip qgA qgp qfZ
def qjA(ms:List Nat)(c:Nat):Nat→Nat
 |0=>0
 |i+1=>if c.testBit i=true then qjA ms c i|||ms.getD i 0 else qjA ms c i
theorem qfg(ms:List Nat)(c i:Nat):qjA ms c (i+1)=if c.testBit i=true then qjA ms c i|||ms.getD i 0 else qjA ms c i:=rfl
def chN(ms:List Nat)(c:Nat):Nat:=qjA ms c ms.length
theorem ql3{ms:List Nat}(hm: ∀i,ms.getD i 0<2^64)(c:Nat): ∀i,qjA ms c i<2^64:=by
 intro i
 induction i with
 |zero=>show (0:Nat)<2^64;decide
 |succ i ih=>
  unfold qjA;split
  ·exact Nat.or_lt_two_pow ih (hm i)
  ·exact ih
theorem qpJ(ms:List Nat)(c j:Nat): ∀i,(qjA ms c i).testBit j=qZ (fun k=>c.testBit k&&(ms.getD k 0).testBit j) i:=by
 intro i
 induction i with
 |zero=>show (0:Nat).testBit j=_;rw[Nat.zero_testBit];rfl
 |succ i ih=>
  have e:qZ (fun k=>c.testBit k&&(ms.getD k 0).testBit j) (i+1)=(qZ (fun k=>c.testBit k&&(ms.getD k 0).testBit j) i||(c.testBit i&&(ms.getD i 0).testBit j)):=by
   rw[Bool.eq_iff_iff,Bool.or_eq_true,qy,qy];constructor
   ·rintro⟨k,h1,h2⟩
    by_cases e:k=i
    ·subst e;exact .inr h2
    ·exact .inl ⟨k,by omega,h2⟩
   ·rintro (⟨k,h1,h2⟩|h)
    ·exact⟨k,by omega,h2⟩
    ·exact⟨i,by omega,h⟩
  rw[e,←ih,qfg];split
  ·rename_i h;rw[Nat.testBit_or,h,Bool.true_and]
  ·rename_i h;rw[Bool.not_eq_true]at h;rw[h,Bool.false_and,Bool.or_false]
theorem qrl{ms:List Nat}(hm: ∀i,ms.getD i 0<2^64)(c:Nat):chN ms c<2^64:=ql3 hm c _
def qob(ms:List Nat):List (List AV):=(List.range (2^ms.length)).map fun c=> [.int .u64 ((c:Nat):Int),.int .u64 ((chN ms c:Nat):Int)]
theorem qd0(ms:List Nat):(qob ms).length=2^ms.length:=by simp[qob]
theorem qgV{ms:List Nat}{i:Nat}(hi:i<(qob ms).length):(qob ms)[i]= [.int .u64 ((i:Nat):Int),.int .u64 ((chN ms i:Nat):Int)]:=by
 simp[qob]
theorem qoR(ms:List Nat): ∀a∈qob ms,a.length=2:=by
 intro a ha;unfold qob at ha;obtain⟨_,_,rfl⟩:=List.mem_map.1 ha;rfl
theorem qDt(ms:List Nat)(h:List AObj):ACalls Tryz.prog 198 [kk ms] h (.fn (.func 245) [] [.ip [kk ms]]) h:=by
 refine acO qyl ?_;simp (disch:=omega) only[qwN,go_sem]
 repeat' first
  |(apply qb;exact rvk;simp only[go_sem];exact qj)
set_option maxHeartbeats 16000000 in
theorem itC(ms:List Nat)(hl:ms.length≤16)(hm: ∀i,ms.getD i 0<2^64):qv1 Tryz.prog 245 [.ip [kk ms]] (qob ms):=by
 intro h ts LI S E hS hE body start hts;have zl: ∀g,valL g .len [kk ms]= .int .i64 ms.length:=fun _=>rfl
 have zo: ∀g,okL g .len [kk ms]=True:=fun _=>eqt trivial
 have hsh:=qgl (n:=ms.length) (by omega);have hp:2^ms.length≤2^16:=Nat.pow_le_pow_right (by omega) hl;have hxl:=qd0 ms;obtain⟨N,hN⟩: ∃N,N=2^ms.length:=⟨_,rfl⟩
 rw[←hN]at hsh hp hxl;refine acQ qyy ?_;simp (disch:=omega) only[qwY,zl,zo,hsh,go_sem]
 repeat' first
  |with_reducible apply aiA
 all_goals try exact clz
 refine qp (T:=fun i:Nat×List AObj=>qQ 35 [(0,.yld h.length),(1,.ip [kk ms]),(9,.int .u64 ((N:Nat):Int)),(10,.int .u64 ((i.1:Nat):Int))])
  (H:=fun i=>i.2++ [.lp .ready ts LI])
  (inv:=fun i=>i.1≤N∧S i.1 i.2) (m:=fun i=>N-i.1) (0,h) ⟨nzl _,start⟩ (Wk.temps ?_) ?_
 ·(simp only[go_sem,qi,qe,qa,qh];try (repeat' first|(with_reducible apply aiA)|(apply qg;omega)|(apply qf;rfl)|exact qj))
 rintro⟨i,hh⟩ ⟨i1,i2⟩ K hK;simp only at i1 i2 hK;obtain⟨hlen,hlow⟩:=hS _ _ i2;have hb:(h++ [AObj.lp LS.ready ts LI]).length=(hh++ [AObj.lp LS.ready ts LI]).length:=by simp[hlen]
 rw[hb]
 by_cases hi:i<N
 ·have q0:((i:Int)<N)=True:=eqt (by omega);have hix:i<(qob ms).length:=by omega
  have hb':=body i hh [] hix i2;rw[qgV hix]at hb';simp (disch:=omega) only[q0,zl,zo,go_sem]
  repeat' first
   |with_reducible apply aiA
  all_goals try exact clz
  have hclt:i<2^64:=by omega
  have hml:=ql3 hm i;refine qp (T:=fun j:Nat=>qQ 35 [(0,.yld (hh++ [AObj.lp LS.ready ts LI]).length.pred),(1,.ip [kk ms]),(3,.int .u64 ((i:Nat):Int)),(4,.int .u64 ((qjA ms i j:Nat):Int)),(9,.int .u64 ((N:Nat):Int)),(10,.int .u64 ((i:Nat):Int)),(13,kk ms),(14,.int .i64 ms.length),(15,.int .i64 j)])
   (H:=fun _=>hh++ [.lp .ready ts LI]) (inv:=fun j=>j≤ms.length) (m:=fun j=>ms.length-j) 0 (nzl _) (Wk.temps ?_) ?_
  ·have e2:(hh++ [AObj.lp LS.ready ts LI]).length.pred=h.length:=by simp[hlen]
   rw[e2]
   (simp only[qjA,go_sem,qi,qe,qa,qh];try (repeat' first|(with_reducible apply aiA)|(apply qg;omega)|(apply qf;rfl)|exact qj))
  have e2:(hh++ [AObj.lp LS.ready ts LI]).length.pred=h.length:=by simp[hlen]
  rw[e2];rintro j j1 K2 hK2
  by_cases hj:j<ms.length
  ·have q1:((j:Int)<ms.length)=True:=eqt (by omega);have e1:=qku (a:=i) (n:=j) hclt (by omega);have eo:=qhp (hml j) (hm j);have hs:=qfg ms i j;have q2:(0≤(j:Int))=True:=eqt (by omega);cases g:i.testBit j with
   |true=>
    rw[g,ipo rfl]at e1;rw[g,ipo rfl]at hs;simp (disch:=omega) only[kk,q1,q2,e1,go_sem]
    repeat' first
     |with_reducible apply aiA
    all_goals try exact clz
    refine hK2 _ _ (j+1) hj (by omega) ?_;simp only[hs];refine Wk.temps ?_
    (simp only[kk,go_sem,qi,qe,qa,qh];try (repeat' first|(with_reducible apply aiA)|(apply qg;omega)|(apply qf;rfl)|exact qj))
   |false=>
    rw[g,ine (by simp)]at e1;rw[g,ine (by simp)]at hs;simp (disch:=omega) only[kk,q1,q2,e1,go_sem]
    repeat' first
     |with_reducible first|intro _|apply aiA
    all_goals try exact clz
    refine hK2 _ _ (j+1) hj (by omega) ?_;simp only[hs];refine Wk.temps ?_
    (simp only[kk,go_sem,qi,qe,qa,qh];try (repeat' first|(with_reducible apply aiA)|(apply qg;omega)|(apply qf;rfl)|exact qj))
  ·obtain rfl:j=ms.length:=by omega
   have q1:((ms.length:Int)<ms.length)=False:=eqf (by omega);have hch:qjA ms i ms.length=chN ms i:=rfl;rw[hch];simp (disch:=omega) only[q1,go_sem]
   repeat' first
    |with_reducible apply aiA
   ·exact⟨.ready,ts,LI,kS hlen⟩
   ·refine kM.mono ?_ hb';rintro v h' ⟨hh',⟨rfl,hn,rfl⟩|⟨st,rfl,hs',rfl⟩⟩
    ·simp (disch:=omega) only[go_sem];refine hK _ _ (i+1,hh') ⟨hi,hn⟩ (by simp only;omega) (Wk.temps ?_)
     (simp only[go_sem,qi,qe,qa,qh];try (repeat' first|(with_reducible apply aiA)|(apply qg;omega)|(apply qf;rfl)|exact qj))
     rw[qbB (by omega) (by omega)];exact qg (by omega)
    ·simp (disch:=omega) only[go_sem];obtain⟨r1,r2⟩:=(hE _ _ hs').ret (L:=LI) st hts;exact kR trivial r1 r2 ⟨_,.inr ⟨st,hs',rfl⟩⟩ (qj)
 ·have e:i=N:=by omega
  subst e;have q0:((i:Int)<i)=False:=eqf (by omega);simp (disch:=omega) only[q0,go_sem];obtain⟨r1,r2⟩:=(hS _ _ i2).ret (L:=LI) .ready hts;exact kR trivial r1 r2 ⟨hh,.inl ⟨by rw[hxl];exact i2,rfl⟩⟩ (qj)
def usM(gs:List Gr)(L:List Int):List Nat:=L.map fun i=>jA (gs.getD i.toNat default).mem
theorem qgE(gs:List Gr)(L:List Int):(usM gs L).length=L.length:=by simp[usM]
theorem qgD{gs:List Gr}{L:List Int}{i:Nat}(hi:i<L.length):(usM gs L).getD i 0=jA (gs.getD (L.getD i 0).toNat default).mem:=by
 unfold usM;rw[gdqA,List.getElem?_map,qY hi,gdqA (l:=L),qY hi];rfl
theorem qsd{gs:List Gr}(hm: ∀i,inB 64 (gs.getD i default).mem)(L:List Int)(i:Nat):(usM gs L).getD i 0<2^64:=by
 by_cases hi:i<L.length
 ·rw[qgD hi];exact qca (hm _)
 ·rw[gdqA,List.getElem?_eq_none (by rw[qgE];omega)];show (0:Nat)<2^64;decide
def kV(gs:List Gr)(all:Nat)(L:List Int)(c:Nat):List Int:=
 (zD c.testBit 64).map (fun k=>L.getD k.toNat 0)++(zD (anN all (chN (usM gs L) c)).testBit 64).map (fun s=>(gs.length:Int)+s)
theorem qcx(gs:List Gr)(all:Nat)(L:List Int)(c:Nat):(kV gs all L c).length=qjB c+qjB (anN all (chN (usM gs L) c)):=by
 unfold kV qjB;rw[List.length_append,List.length_map,List.length_map]
def qsw(a b:List Int):Bool:=decide (a.length<b.length)||decide (a.length=b.length)&&decide (qrn a b<0)
def bst(gs:List Gr)(all:Nat)(L:List Int):Nat→List Int
 |0=>kV gs all L 0
 |c+1=>if qsw (kV gs all L (c+1)) (bst gs all L c)=true then kV gs all L (c+1) else bst gs all L c
theorem qky(gs:List Gr)(all:Nat)(L:List Int): ∀c,∃k,k≤c∧bst gs all L c=kV gs all L k:=by
 intro c
 induction c with
 |zero=>exact⟨0,nlr _,rfl⟩
 |succ c ih=>
  obtain⟨k,h1,h2⟩:=ih;unfold bst;split
  ·exact⟨c+1,nlr _,rfl⟩
  ·exact⟨k,by omega,h2⟩
def qwr(gs:List Gr)(all:Nat):List Int:=bst gs all (kA gs all) (2^(kA gs all).length-1)
def qaP(names:List Str)(gs:List Gr)(p:Int):Str:=if p<gs.length then (gs.getD p.toNat default).name else names.getD (p-gs.length).toNat []
def shR(names:List Str)(gs:List Gr)(set:List Int):List Str:=if qes names gs set=0 then (qwr gs (jA set)).map (qaP names gs) else []
theorem qa0{c n k:Nat}(hc:c<2^n)(hk:c.testBit k=true):k<n:=by
 by_cases h:k<n
 ·exact h
 ·rw[Nat.testBit_lt_two_pow (Nat.lt_of_lt_of_le hc (Nat.pow_le_pow_right (by omega) (by omega)))]at hk;cases hk
theorem zE{p:Nat→Bool}{n:Nat}{x:Int}(h:x∈zD p n): ∃k:Nat,x=(k:Int)∧k<n∧p k=true:=by
 unfold zD at h;obtain⟨k,h1,rfl⟩:=List.mem_map.1 h;obtain⟨h2,h3⟩:=List.mem_filter.1 h1;exact⟨k,rfl,List.mem_range.1 h2,h3⟩
theorem ql6{set:List Int}{n:Nat}(hn:n≤64)(h:inB n set):jA set<2^n:=by
 have h64:inB 64 set:=fun i hi=>by have:=h i hi;omega
 refine Nat.lt_pow_two_of_testBit _ fun i hi=> ?_
 rw[jG h64];refine dqf fun hm=> ?_
 have:=jQ h _ hm
 omega
theorem qrj{a b n:Nat}(h:a<2^n):anN a b<2^n:=Nat.lt_of_le_of_lt (qjE a b) h
theorem qgL{gs:List Gr}{all:Nat}{x:Int}(h:x∈kA gs all): ∃k:Nat,x=(k:Int)∧k<gs.length:=by
 obtain⟨k,h1,h2,_⟩:=zE h;exact⟨k,h1,h2⟩
theorem qr7{names:List Str}{gs:List Gr}{set:List Int}{all:Nat}(hs:inB names.length set)(hn:names.length≤64)(ha:all=jA set){c:Nat}(hc:c<2^(kA gs all).length){p:Int}(hp:p∈kV gs all (kA gs all) c):0≤p∧p<gs.length+names.length:=by
 unfold kV at hp;rcases List.mem_append.1 hp with hp|hp
 ·obtain⟨k,h1,rfl⟩:=List.mem_map.1 hp;obtain⟨k',rfl,h2,h3⟩:=zE h1;have hk:=qa0 hc h3;have hm:(kA gs all).getD k' 0∈kA gs all:=by
   rw[gdqA,qY hk];exact List.getElem_mem hk
  obtain⟨g,e,hg⟩:=qgL hm;rw[Int.toNat_natCast,e];omega
 ·obtain⟨k,h1,rfl⟩:=List.mem_map.1 hp;obtain⟨k',rfl,h2,h3⟩:=zE h1
  have:=qa0 (qrj (b:=chN (usM gs (kA gs all)) c) (by rw[ha];exact ql6 hn hs)) h3
  omega
end RC
end
section
open Go Go.Proofs AF
def qzr:List Nat:= [132,109,174,220,68]
def qsH:C:=
 ((C.ops [O1 4 (.box 0 44) 1,ON 6 (.nilo 1 1 9) [],MC 7 (i6 0)]).seq (((C.ops [MV 27 0,LD 28 4,MV 29 2,ON 30 (.call 196 true) [.t 27,.t 28,.t 29],MV 8 30]).seq ((C.ops [MV
 31 8,BC 32 .neq 31 (i6 0)]).seq (C.cond (.t 32) ((C.ops [MV 33 8,ON 6 (.nilo 1 1 9) [],MV 7 33]).seq C.ret) C.skip))).seq ((C.ops [MV 34 2,O1 35 (.call 125 true) 34,⟨some 9,
 none,.alloc 2 164 [.int .u64 0],[]⟩,ST 1 9 35]).seq ((C.ops [LD 36 4,LD 37 9,O2 38 (.call 197 true) 36 37,⟨some 10,none,.alloc 3 62 [.nl],[]⟩,ST 1 10 38]).seq ((C.ops [ON
 11 (.nilo 4 1 164) []]).seq (((C.ops [LD 39 10,O1 40 .len 39,MC 41 (i6 0)]).seq (C.block 0 ((C.ops [BI 42 .lss 41 40]).seq ((C.cond (.t 42) C.skip (C.exit 0)).seq ((C.block 1
 ((C.ops [O2 43 (.idxA 1) 39 41,LD 44 43,MV 13 44]).seq (C.ops [MV 45 11,LD 46 4,MV 47 13,O2 48 (.idxA 2) 46 47,O1 49 (.fldA 1) 48,LD 50 49,O1 51 (.call 125 true) 50,⟨some
 52,none,.bslc 5 1 1 164 [.int .u64 0] [(0,1)],[.t 51]⟩,O2 53 (.app 6 1 164 8) 45 52,MV 11 53]))).seq (C.ops [BC 54 .add 41 (i6 1),MV 41 54])))).loop)).seq ((C.ops [⟨some 14,
 none,.alloc 7 62 [.nl],[]⟩]).seq ((C.ops [⟨some 15,none,.alloc 8 4 [.bool false],[]⟩,⟨none,none,.store 1,[.t 15,.c (.bool false)]⟩]).seq (((C.wk.seq (C.ops [MV 55 11,O1
 56 (.call 198 true) 55])).seq (C.block 2 (C.range (.t 56) [57,58] ((C.ops [MV 16 57]).seq (C.ops [MV 17 58])) (C.block 3 ((C.wk.seq (C.ops [MV 59 16,O1 60 (.call 199 true) 59,LD
 61 9,MV 62 17,BI 63 .andNot 61 62,O1 64 (.call 199 true) 63,BI 65 .add 60 64,MV 18 65])).seq (((C.ops [LD 66 15,MV 67 66,MG 68 67 true 18,P1 69 67 true (.load none) 14,P1
 70 67 true .len 69,P2 71 67 true (.bin .gtr) 68 70,PF 72 67 71]).seq (C.cond (.t 72) (C.exit 3) C.skip)).seq ((C.ops [ON 19 (.nilo 9 1 3) []]).seq (((C.ops [MV 73 16,O1 74
 (.call 126 true) 73,O1 75 .len 74,MC 76 (i6 0)]).seq (C.block 4 ((C.ops [BI 77 .lss 76 75]).seq ((C.cond (.t 77) C.skip (C.exit 4)).seq ((C.block 5 ((C.ops [O2 78 (.idxA 1) 74
 76,LD 79 78,MV 21 79]).seq (C.ops [MV 80 19,LD 81 10,MV 82 21,O2 83 (.idxA 1) 81 82,LD 84 83,⟨some 85,none,.bslc 10 1 1 3 [i6 0] [(0,1)],[.t 84]⟩,O2 86 (.app 11 1 3 8)
 80 85,MV 19 86]))).seq (C.ops [BC 87 .add 76 (i6 1),MV 76 87])))).loop)).seq (((C.ops [LD 88 9,MV 89 17,BI 90 .andNot 88 89,O1 91 (.call 126 true) 90,O1 92 .len 91,MC 93 (i6
 0)]).seq (C.block 6 ((C.ops [BI 94 .lss 93 92]).seq ((C.cond (.t 94) C.skip (C.exit 6)).seq ((C.block 7 ((C.ops [O2 95 (.idxA 1) 91 93,LD 96 95,MV 23 96]).seq (C.ops [MV 97 19,
 LD 98 4,O1 99 .len 98,MV 100 23,BI 101 .add 99 100,⟨some 102,none,.bslc 12 1 1 3 [i6 0] [(0,1)],[.t 101]⟩,O2 103 (.app 13 1 3 8) 97 102,MV 19 103]))).seq (C.ops [BC 104
 .add 93 (i6 1),MV 93 104])))).loop)).seq ((C.ops [LD 105 15,O1 106 (.un UnOp.not) 105,MV 107 106,MG 108 107 false 19,P1 109 107 false .len 108,P1 110 107 false (.load none)
 14,P1 111 107 false .len 110,P2 112 107 false (.bin .lss) 109 111,PT 113 107 112,MV 114 113,MG 115 114 false 19,P1 116 114 false (.load none) 14,P2 117 114 false (.call 66
 true) 115 116,PC 118 114 false (.bin .lss) 117 (i6 0),PT 119 114 118]).seq (C.cond (.t 119) (C.ops [MV 120 19,ST 1 14 120,⟨none,none,.store 1,[.t 15,.c (.bool true)]⟩])
 C.skip))))))))))).seq ((C.ops [ON 24 (.nilo 14 1 9) []]).seq (((C.wk.seq (C.ops [LD 121 14,O1 122 .len 121,MC 123 (i6 0)])).seq (C.block 8 ((C.ops [BI 124 .lss 123 122]).seq
 ((C.cond (.t 124) C.skip (C.exit 8)).seq ((C.block 9 ((C.ops [O2 125 (.idxA 1) 121 123,LD 126 125,MV 26 126]).seq ((C.ops [MV 127 26,LD 128 4,O1 129 .len 128,BI 130 .lss 127
 129]).seq (C.cond (.t 130) (C.ops [MV 131 24,LD 132 4,MV 133 26,O2 134 (.idxA 2) 132 133,O1 135 (.fldA 0) 134,LD 136 135,⟨some 137,none,.bslc 15 1 1 9 [.str []] [(0,1)],
 [.t 136]⟩,O2 138 (.app 16 1 9 16) 131 137,MV 24 138]) (C.ops [MV 139 24,MV 140 0,MV 141 26,LD 142 4,O1 143 .len 142,BI 144 .sub 141 143,O2 145 (.idxA 1) 140 144,LD 146
 145,⟨some 147,none,.bslc 17 1 1 9 [.str []] [(0,1)],[.t 146]⟩,O2 148 (.app 18 1 9 16) 139 147,MV 24 148]))))).seq (C.ops [BC 149 .add 123 (i6 1),MV 123 149])))).loop)).seq
 ((C.ops [MV 150 24,MV 6 150,MC 7 (i6 0)]).seq
 C.ret))))))))))))
theorem qrz:qE Tryz.prog 142 151 19 [RV.tmp 6,RV.tmp 7] qsH:=fi Tryz.f142 [4,6,9,10,11,52,53,14,15,19,85,86,102,103,24,137,138,147,148] qzr [14,17,33]
end
section
open Go Go.Proofs AF HY LN
namespace RC
def qeD(ms:List Nat):List AV:=ms.map fun m=> .int .u64 ((m:Nat):Int)
theorem qhH(ms:List Nat):(qeD ms).length=ms.length:=by simp[qeD]
theorem qq3(a b:List Nat):qeD (a++b)=qeD a++qeD b:=by simp[qeD]
theorem qjf{L:List Nat}{i:Nat}(hi:i<L.length):L.take (i+1)=L.take i++ [L.getD i 0]:=by
 rw[List.take_succ_eq_append_getElem hi,gdqA,qY hi];rfl
theorem jV{L:List Int}{i:Nat}(hi:i<L.length):L.take (i+1)=L.take i++ [L.getD i 0]:=by
 rw[List.take_succ_eq_append_getElem hi,gdqA,qY hi];rfl
theorem qq4{L:List Nat}{n:Nat}(g:AV→AV)(hg: ∀n,g (.int .u64 n)= .int .u64 n)(hn:n=L.length):VLe (.sl n fun i=>(((qeD L).drop i).take 1).map g) (kk L):=by
 subst hn;refine VLe.sl_eq rfl (fun i hi=> ?_);unfold qeD;rw[←List.map_drop,List.drop_eq_getElem_cons hi,List.map_cons,List.take_succ_cons,List.take_zero,List.map_cons,List.map_nil,hg,gdqA,qY hi];rfl
theorem qqD{v n:Nat}{L:List Nat}{g:AV→AV}(hg: ∀s,g (.int .u64 s)= .int .u64 s)(hn:n=L.length):VLe (qeC (some (zP v 164 (qeD L))) v 1 0 n g) (kk L):=by
 subst hn
 by_cases h:L= []
 ·subst h;show VLe (qeC (some (.emp v)) v 1 0 0 g) _;rw[slOf_emp,ipo rfl];exact jX
 ·have e0:zP v 164 (qeD L)= .mem v 164 (qeD L):=jH (by simpa[qeD] using h);rw[e0,slOf_mem,ipo ⟨rfl,by rw[qhH];omega⟩];simp only[Nat.zero_add,Nat.mul_one];exact qq4 g hg rfl
def shH(h:List AObj)(gs:List Gr)(all:Nat)(L:List Int)(v4:Nat)(O5:AObj)(bc:AV)(fd:Bool)(O9 O10 O12:AObj)(tl:List AObj):List AObj:=
 h++(.mem 1 44 [qL gs]:: .emp 1:: .mem 1 164 [.int .u64 ((all:Nat):Int)]:: .mem 1 62 [qn L]:: .emp v4::O5:: .emp 0:: .mem 1 62 [bc]:: .mem 1 4 [.bool fd]::O9::O10:: .emp 0::O12:: .emp 0:: .emp 0:: .emp 0:: .emp 0:: .emp 0:: .emp 0::tl)
theorem qbV(h:List AObj)(gs:List Gr)(all:Nat)(L:List Int)(v4:Nat)(O5:AObj)(bc:AV)(fd:Bool)(O9 O10 O12:AObj)(tl:List AObj):shH h gs all L v4 O5 bc fd O9 O10 O12 []++tl=shH h gs all L v4 O5 bc fd O9 O10 O12 tl:=by simp[shH]
theorem jr(h:List AObj)(gs:List Gr)(all:Nat)(L:List Int)(v4:Nat)(O5:AObj)(bc:AV)(fd:Bool)(O9 O10 O12:AObj):(shH h gs all L v4 O5 bc fd O9 O10 O12 []).length=h.length+19:=by simp[shH]
def bsC(gs:List Gr)(all:Nat)(L:List Int):Nat→AV
 |0=> .nl
 |i+1=>qn (bst gs all L i)
def bsO(h:List AObj)(gs:List Gr)(all:Nat)(L:List Int)(i:Nat)(bc:AV)(O9:AObj):Prop:=
 (bc=bsC gs all L i∧qH [O9] 0=true)∨ ∃j v,i=j+1∧bc= .osl (h.length+9) v 1 0 (bst gs all L j).length∧O9=zP v 3 (qx (bst gs all L j))
theorem shW{h:List AObj}{gs:List Gr}{all:Nat}{L:List Int}{v4 i:Nat}{O5:AObj}{bc:AV}{fd:Bool}{O9 O10 O12:AObj}{tl:List AObj}(hb:bsO h gs all L i bc O9)(hl: ∀n,qan n O9):
  ∃O9',qH [O9'] 0=true∧(∀n,qan n O9')∧ ∀TT,Wk TT (shH h gs all L v4 O5 bc fd O9 O10 O12 tl) TT (shH h gs all L v4 O5 (bsC gs all L i) fd O9' O10 O12 tl):=by
 rcases hb with⟨rfl,h2⟩|⟨j,v,rfl,rfl,rfl⟩
 ·exact⟨O9,h2,hl,fun TT=>Wk.refl _ _⟩
 ·refine⟨.emp (v+1),rfl,fun _=>trivial,fun TT=> ?_⟩;have w:=Wk.fzCell (t:=TT) (h:=shH h gs all L v4 O5 (.osl (h.length+9) v 1 0 (bst gs all L j).length) fd (zP v 3 (qx (bst gs all L j))) O10 O12 tl) (j:=h.length+7) (k:=h.length+9) (i:=0) (v:=1) (ty:=62) (cs:= [.osl (h.length+9) v 1 0 (bst gs all L j).length]) (c:= .osl (h.length+9) v 1 0 (bst gs all L j).length) (c':=qn (bst gs all L j))
   (by unfold shH;simp only[go_sem]) rfl (by unfold shH;simp only[go_sem]) (by omega) (by
    rw[qcs];unfold shH;rw[getO_app]
    exact qaL (fun _=>rfl) rfl)
  unfold shH at w ⊢;simp only[go_sem,List.set_cons_zero]at w;exact w
theorem ql1(n:Nat)(L:List Nat):jb n (kk L)=true:=rfl
theorem qbn(L:List Int)(n:Nat): ∀c∈qx L,jb n c=true:=by
 intro c hc;unfold qx at hc;obtain⟨x,_,rfl⟩:=List.mem_map.1 hc;rfl
theorem qDv(a b:List Int)(k v:Nat)(h:List AObj)(n:Nat)(hn:n=a.length)(hk:getO k h=some (zP v 3 (qx a)))(hl:a.length=b.length)(ha:a.length≤1000000000):ACalls Tryz.prog 66 [.osl k v 1 0 n,qn b] h (.int .i64 (qrn a b)) h:=by
 subst hn;refine ACalls.borrow ((qDw a b [] hl ha).le ?_ (qj)) rfl;simp only[List.map_cons,List.map_nil,rei_osl,if_true,hk];exact⟨qaL (fun _=>rfl) rfl,qj,trivial⟩
end RC
end
