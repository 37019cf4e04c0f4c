import Derived.Test.YtmieflnoheifbaaGreatDoorK13
import Derived.Test.YtmieflnoheifbaaGreatDoorK3
import Derived.Test.YtmieflnoheifbaaGreatDoorK5
import Derived.Test.YtmieflnoheifbaaGreatDoorK8
import Derived.Test.YtmieflnoheifbaaGreatDoorProg
import Derived.Test.YtmieflnoheifbaaGreatDoorK11
import Derived.Test.YtmieflnoheifbaaGreatDoorK12
set_option linter.all false
set_option maxHeartbeats 128000000
set_option maxRecDepth 100000
section
open Go Go.Proofs AF HY LN
namespace AF
theorem qce{v:Nat}{ty:TypeId}{cs:wg}:qi7 (some (zw v ty cs)) ty=true:=by
 unfold zw;split<;>simp[qi7]
end AF
namespace RC
section
variable {h : we} {a b c va : Nat}
theorem qcD{q:Br}(hn:0<q.out.length):brY q= .mem q.vo 119 (z8 q.out):=by
 unfold brY zw;rw[ine];intro e
 have:=congrArg List.length e
 rw[jA,lnl]at this;omega
theorem qsH(t:T3 h a b c)(q:Br)(hn:0<q.out.length)(hm:q.out.length<=1000000):ACalls Tryz.prog 346 [.op a va 0] (brO h a b c va q) (.op b q.vo ((q.out.length-1)*6)) (brO h a b c va q):=by
 have ta:=t.la;have tb:=t.lb;have tc:=t.lc;have zga: ∀ {X Y Z l},qq (a) (tri h a b c X Y Z++l)=some X:=dB (t);have yga: ∀ {X Y Z},qq (a) (tri h a b c X Y Z)=some X:=λ{X Y Z}=>by have:=zga (X:=X) (Y:=Y) (Z:=Z) (l:= []);simpa only[lan] using this
 have zgb: ∀ {X Y Z l},qq (b) (tri h a b c X Y Z++l)=some Y:=UE (t);have ygb: ∀ {X Y Z},qq (b) (tri h a b c X Y Z)=some Y:=λ{X Y Z}=>by have:=zgb (X:=X) (Y:=Y) (Z:=Z) (l:= []);simpa only[lan] using this
 have zgc: ∀ {X Y Z l},qq (c) (tri h a b c X Y Z++l)=some Z:=ey (t);have ygc: ∀ {X Y Z},qq (c) (tri h a b c X Y Z)=some Z:=λ{X Y Z}=>by have:=zgc (X:=X) (Y:=Y) (Z:=Z) (l:= []);simpa only[lan] using this
 have zsa: ∀ {X Y Z o l},qn (a) (tri h a b c X Y Z++l) o=tri h a b c o Y Z++l:=UF (t);have ysa: ∀ {X Y Z o},qn (a) (tri h a b c X Y Z) o=tri h a b c o Y Z:=λ{X Y Z o}=>by have:=zsa (X:=X) (Y:=Y) (Z:=Z) (o:=o) (l:= []);simpa only[lan] using this
 have zsb: ∀ {X Y Z o l},qn (b) (tri h a b c X Y Z++l) o=tri h a b c X o Z++l:=UQ (t);have ysb: ∀ {X Y Z o},qn (b) (tri h a b c X Y Z) o=tri h a b c X o Z:=λ{X Y Z o}=>by have:=zsb (X:=X) (Y:=Y) (Z:=Z) (o:=o) (l:= []);simpa only[lan] using this
 have zsc: ∀ {X Y Z o l},qn (c) (tri h a b c X Y Z++l) o=tri h a b c X Y o++l:=UR (t);have ysc: ∀ {X Y Z o},qn (c) (tri h a b c X Y Z) o=tri h a b c X Y o:=λ{X Y Z o}=>by have:=zsc (X:=X) (Y:=Y) (Z:=Z) (o:=o) (l:= []);simpa only[lan] using this
 have zca: ∀ {X Y Z v l},cellsOf (tri h a b c X Y Z++l) (a) v=qr (some X) v:=qay (t);have yca: ∀ {X Y Z v},cellsOf (tri h a b c X Y Z) (a) v=qr (some X) v:=λ{X Y Z v}=>by have:=zca (X:=X) (Y:=Y) (Z:=Z) (v:=v) (l:= []);simpa only[lan] using this
 have zcb: ∀ {X Y Z v l},cellsOf (tri h a b c X Y Z++l) (b) v=qr (some Y) v:=qaz (t);have ycb: ∀ {X Y Z v},cellsOf (tri h a b c X Y Z) (b) v=qr (some Y) v:=λ{X Y Z v}=>by have:=zcb (X:=X) (Y:=Y) (Z:=Z) (v:=v) (l:= []);simpa only[lan] using this
 have zcc: ∀ {X Y Z v l},cellsOf (tri h a b c X Y Z++l) (c) v=qr (some Z) v:=qaA (t);have ycc: ∀ {X Y Z v},cellsOf (tri h a b c X Y Z) (c) v=qr (some Z) v:=λ{X Y Z v}=>by have:=zcc (X:=X) (Y:=Y) (Z:=Z) (v:=v) (l:= []);simpa only[lan] using this
 have zla: ∀ {X Y Z v l},qE (tri h a b c X Y Z++l) (a) v=qG (some X) v:=qaB (t);have yla: ∀ {X Y Z v},qE (tri h a b c X Y Z) (a) v=qG (some X) v:=λ{X Y Z v}=>by have:=zla (X:=X) (Y:=Y) (Z:=Z) (v:=v) (l:= []);simpa only[lan] using this
 have zlb: ∀ {X Y Z v l},qE (tri h a b c X Y Z++l) (b) v=qG (some Y) v:=qaC (t);have ylb: ∀ {X Y Z v},qE (tri h a b c X Y Z) (b) v=qG (some Y) v:=λ{X Y Z v}=>by have:=zlb (X:=X) (Y:=Y) (Z:=Z) (v:=v) (l:= []);simpa only[lan] using this
 have zlc: ∀ {X Y Z v l},qE (tri h a b c X Y Z++l) (c) v=qG (some Z) v:=qaD (t);have ylc: ∀ {X Y Z v},qE (tri h a b c X Y Z) (c) v=qG (some Z) v:=λ{X Y Z v}=>by have:=zlc (X:=X) (Y:=Y) (Z:=Z) (v:=v) (l:= []);simpa only[lan] using this
 have e1:((q.out.length:Int)-1).toNat=q.out.length-1:=by omega
 have k1:(0<=(q.out.length:Int)-1)=True:=wh;have k2:((q.out.length:Int)-1<q.out.length)=True:=wh;unfold brO;rw[qcD hn];unfold brX;refine acO qyY ?_;simp (disch:=omega) only[qxk,yca,ycb,ylb,qk,UK,e1,k1,k2,go_sem]
 repeat' first|(apply qc;exact rvk;simp only[go_sem])
 rw[ine om];exact qi
theorem Wk.triNil{t:wg}{X Z:AObj}{Y:AObj}{v i ve sz:Nat}{ty:TypeId}{cs:wg}(T:T3 h a b c)(hX:X= .mem v ty cs)(hi:cs[i]? =some .nl)(hZ:Z= .emp ve):
  Wk t (tri h a b c X Y Z) t (tri h a b c (.mem v ty (cs.set i (.osl c ve sz 0 0))) Y Z):=by
 subst hX;subst hZ;have e:=UF (X:= .mem v ty cs) (Y:=Y) (Z:= .emp ve) (l:= []) (o:= .mem v ty (cs.set i (.osl c ve sz 0 0))) T;simp only[lan]at e;rw[<-e];refine Wk.ownNil (j:=a) (k:=c) ?_ hi ?_
 ·have:=dB (X:= .mem v ty cs) (Y:=Y) (Z:= .emp ve) (l:= []) T
  simpa only[lan] using this
 ·have:=ey (X:= .mem v ty cs) (Y:=Y) (Z:= .emp ve) (l:= []) T
  simpa only[lan] using this
theorem qwk(t:T3 h a b c)(X0 X1 X2 X3 X4 X5:AV)(Y:AObj)(v:Nat)(l0:qS h.length X0=true)(l3:qS h.length X3=true)(l4:qS h.length X4=true)(l5:qS h.length X5=true)(ly:lowO h.length Y):
  ACalls Tryz.prog 347 [.op a va 1] (tri h a b c (.mem va 343 [X0,X1,X2,X3,X4,X5]) Y (.emp v)) (.tup []) (tri h a b c (.mem va 343 [X0,.nilp,.osl c v 1 0 0,X3,X4,X5]) Y (.emp v)):=by
 have ta:=t.la;have tb:=t.lb;have tc:=t.lc;refine ACalls.wk (h':=tri h a b c (.mem va 343 [X0,.nilp,.nl,X3,X4,X5]) Y (.emp v)) ?_ (Wk.triNil (v:=va) (ty:=343) (cs:= [X0,.nilp,.nl,X3,X4,X5]) (i:=2) (sz:=1) t rfl rfl rfl);have zga: ∀ {X Y Z l},qq (a) (tri h a b c X Y Z++l)=some X:=dB (t);have yga: ∀ {X Y Z},qq (a) (tri h a b c X Y Z)=some X:=λ{X Y Z}=>by have:=zga (X:=X) (Y:=Y) (Z:=Z) (l:= []);simpa only[lan] using this
 have zgb: ∀ {X Y Z l},qq (b) (tri h a b c X Y Z++l)=some Y:=UE (t);have ygb: ∀ {X Y Z},qq (b) (tri h a b c X Y Z)=some Y:=λ{X Y Z}=>by have:=zgb (X:=X) (Y:=Y) (Z:=Z) (l:= []);simpa only[lan] using this
 have zgc: ∀ {X Y Z l},qq (c) (tri h a b c X Y Z++l)=some Z:=ey (t);have ygc: ∀ {X Y Z},qq (c) (tri h a b c X Y Z)=some Z:=λ{X Y Z}=>by have:=zgc (X:=X) (Y:=Y) (Z:=Z) (l:= []);simpa only[lan] using this
 have zsa: ∀ {X Y Z o l},qn (a) (tri h a b c X Y Z++l) o=tri h a b c o Y Z++l:=UF (t);have ysa: ∀ {X Y Z o},qn (a) (tri h a b c X Y Z) o=tri h a b c o Y Z:=λ{X Y Z o}=>by have:=zsa (X:=X) (Y:=Y) (Z:=Z) (o:=o) (l:= []);simpa only[lan] using this
 have zsb: ∀ {X Y Z o l},qn (b) (tri h a b c X Y Z++l) o=tri h a b c X o Z++l:=UQ (t);have ysb: ∀ {X Y Z o},qn (b) (tri h a b c X Y Z) o=tri h a b c X o Z:=λ{X Y Z o}=>by have:=zsb (X:=X) (Y:=Y) (Z:=Z) (o:=o) (l:= []);simpa only[lan] using this
 have zsc: ∀ {X Y Z o l},qn (c) (tri h a b c X Y Z++l) o=tri h a b c X Y o++l:=UR (t);have ysc: ∀ {X Y Z o},qn (c) (tri h a b c X Y Z) o=tri h a b c X Y o:=λ{X Y Z o}=>by have:=zsc (X:=X) (Y:=Y) (Z:=Z) (o:=o) (l:= []);simpa only[lan] using this
 have zca: ∀ {X Y Z v l},cellsOf (tri h a b c X Y Z++l) (a) v=qr (some X) v:=qay (t);have yca: ∀ {X Y Z v},cellsOf (tri h a b c X Y Z) (a) v=qr (some X) v:=λ{X Y Z v}=>by have:=zca (X:=X) (Y:=Y) (Z:=Z) (v:=v) (l:= []);simpa only[lan] using this
 have zcb: ∀ {X Y Z v l},cellsOf (tri h a b c X Y Z++l) (b) v=qr (some Y) v:=qaz (t);have ycb: ∀ {X Y Z v},cellsOf (tri h a b c X Y Z) (b) v=qr (some Y) v:=λ{X Y Z v}=>by have:=zcb (X:=X) (Y:=Y) (Z:=Z) (v:=v) (l:= []);simpa only[lan] using this
 have zcc: ∀ {X Y Z v l},cellsOf (tri h a b c X Y Z++l) (c) v=qr (some Z) v:=qaA (t);have ycc: ∀ {X Y Z v},cellsOf (tri h a b c X Y Z) (c) v=qr (some Z) v:=λ{X Y Z v}=>by have:=zcc (X:=X) (Y:=Y) (Z:=Z) (v:=v) (l:= []);simpa only[lan] using this
 have zla: ∀ {X Y Z v l},qE (tri h a b c X Y Z++l) (a) v=qG (some X) v:=qaB (t);have yla: ∀ {X Y Z v},qE (tri h a b c X Y Z) (a) v=qG (some X) v:=λ{X Y Z v}=>by have:=zla (X:=X) (Y:=Y) (Z:=Z) (v:=v) (l:= []);simpa only[lan] using this
 have zlb: ∀ {X Y Z v l},qE (tri h a b c X Y Z++l) (b) v=qG (some Y) v:=qaC (t);have ylb: ∀ {X Y Z v},qE (tri h a b c X Y Z) (b) v=qG (some Y) v:=λ{X Y Z v}=>by have:=zlb (X:=X) (Y:=Y) (Z:=Z) (v:=v) (l:= []);simpa only[lan] using this
 have zlc: ∀ {X Y Z v l},qE (tri h a b c X Y Z++l) (c) v=qG (some Z) v:=qaD (t);have ylc: ∀ {X Y Z v},qE (tri h a b c X Y Z) (c) v=qG (some Z) v:=λ{X Y Z v}=>by have:=zlc (X:=X) (Y:=Y) (Z:=Z) (v:=v) (l:= []);simpa only[lan] using this
 refine acO qyZ ?_;simp (disch:=omega) only[qxl,yga,ysa,yca,qk,go_sem];refine zQ trivial (by simp only[tri_len]) (jB t (λx hx=> ?_) ly trivial) ⟨rfl,rfl⟩ (qi);simp only[List.mem_cons,List.not_mem_nil,or_false]at hx;rcases hx with rfl|rfl|rfl|rfl|rfl|rfl
 ·exact l0
 ·rfl
 ·rfl
 ·exact l3
 ·exact l4
 ·exact l5
theorem qnx{L:List Tk}(w:Str)(hn:0<L.length):(z8 L).take ((L.length-1)*6)++([AV.str w]++(z8 L).drop ((L.length-1)*6+1))=z8 (U3 L w):=by
 unfold U3;rw[<-qha _ om];refine congrArg _ ?_;have e:(z8 L).drop ((L.length-1)*6+1)=(tkC (L.getD (L.length-1) default)).drop 1++(z8 L).drop ((L.length-1)*6+6):=by
  rw[<-qaw (L:=L) (i:=L.length-1) om];have e2:(z8 L).drop ((L.length-1)*6)=((z8 L).drop ((L.length-1)*6)).take 6++((z8 L).drop ((L.length-1)*6)).drop 6:=(List.take_append_drop _ _).symm;have hl:=jA L;have hl2:((z8 L).drop ((L.length-1)*6)).length=L.length*6-(L.length-1)*6:=by rw[List.length_drop,hl]
  rw[<-List.drop_drop,<-List.drop_drop (i:=6),<-List.drop_append_of_le_length (by rw[List.length_take];omega),List.take_append_drop]
 rw[e];rfl
theorem UC(L:List Tk)(w:Str):(U3 L w).length=L.length:=by unfold U3;rw[List.length_set]
theorem qsG(t:T3 h a b c)(q:Br)(ho:q.opn=true->0<q.out.length)(hw:q.opn=false->q.word= [])(hm:q.out.length<=1000000)(hl:q.word.length<=1000000):ACalls Tryz.prog 288 [.op a va 0] (brO h a b c va q) (.tup []) (brO h a b c va q.nd):=by
 have ta:=t.la;have tb:=t.lb;have tc:=t.lc;have zga: ∀ {X Y Z l},qq (a) (tri h a b c X Y Z++l)=some X:=dB (t);have yga: ∀ {X Y Z},qq (a) (tri h a b c X Y Z)=some X:=λ{X Y Z}=>by have:=zga (X:=X) (Y:=Y) (Z:=Z) (l:= []);simpa only[lan] using this
 have zgb: ∀ {X Y Z l},qq (b) (tri h a b c X Y Z++l)=some Y:=UE (t);have ygb: ∀ {X Y Z},qq (b) (tri h a b c X Y Z)=some Y:=λ{X Y Z}=>by have:=zgb (X:=X) (Y:=Y) (Z:=Z) (l:= []);simpa only[lan] using this
 have zgc: ∀ {X Y Z l},qq (c) (tri h a b c X Y Z++l)=some Z:=ey (t);have ygc: ∀ {X Y Z},qq (c) (tri h a b c X Y Z)=some Z:=λ{X Y Z}=>by have:=zgc (X:=X) (Y:=Y) (Z:=Z) (l:= []);simpa only[lan] using this
 have zsa: ∀ {X Y Z o l},qn (a) (tri h a b c X Y Z++l) o=tri h a b c o Y Z++l:=UF (t);have ysa: ∀ {X Y Z o},qn (a) (tri h a b c X Y Z) o=tri h a b c o Y Z:=λ{X Y Z o}=>by have:=zsa (X:=X) (Y:=Y) (Z:=Z) (o:=o) (l:= []);simpa only[lan] using this
 have zsb: ∀ {X Y Z o l},qn (b) (tri h a b c X Y Z++l) o=tri h a b c X o Z++l:=UQ (t);have ysb: ∀ {X Y Z o},qn (b) (tri h a b c X Y Z) o=tri h a b c X o Z:=λ{X Y Z o}=>by have:=zsb (X:=X) (Y:=Y) (Z:=Z) (o:=o) (l:= []);simpa only[lan] using this
 have zsc: ∀ {X Y Z o l},qn (c) (tri h a b c X Y Z++l) o=tri h a b c X Y o++l:=UR (t);have ysc: ∀ {X Y Z o},qn (c) (tri h a b c X Y Z) o=tri h a b c X Y o:=λ{X Y Z o}=>by have:=zsc (X:=X) (Y:=Y) (Z:=Z) (o:=o) (l:= []);simpa only[lan] using this
 have zca: ∀ {X Y Z v l},cellsOf (tri h a b c X Y Z++l) (a) v=qr (some X) v:=qay (t);have yca: ∀ {X Y Z v},cellsOf (tri h a b c X Y Z) (a) v=qr (some X) v:=λ{X Y Z v}=>by have:=zca (X:=X) (Y:=Y) (Z:=Z) (v:=v) (l:= []);simpa only[lan] using this
 have zcb: ∀ {X Y Z v l},cellsOf (tri h a b c X Y Z++l) (b) v=qr (some Y) v:=qaz (t);have ycb: ∀ {X Y Z v},cellsOf (tri h a b c X Y Z) (b) v=qr (some Y) v:=λ{X Y Z v}=>by have:=zcb (X:=X) (Y:=Y) (Z:=Z) (v:=v) (l:= []);simpa only[lan] using this
 have zcc: ∀ {X Y Z v l},cellsOf (tri h a b c X Y Z++l) (c) v=qr (some Z) v:=qaA (t);have ycc: ∀ {X Y Z v},cellsOf (tri h a b c X Y Z) (c) v=qr (some Z) v:=λ{X Y Z v}=>by have:=zcc (X:=X) (Y:=Y) (Z:=Z) (v:=v) (l:= []);simpa only[lan] using this
 have zla: ∀ {X Y Z v l},qE (tri h a b c X Y Z++l) (a) v=qG (some X) v:=qaB (t);have yla: ∀ {X Y Z v},qE (tri h a b c X Y Z) (a) v=qG (some X) v:=λ{X Y Z v}=>by have:=zla (X:=X) (Y:=Y) (Z:=Z) (v:=v) (l:= []);simpa only[lan] using this
 have zlb: ∀ {X Y Z v l},qE (tri h a b c X Y Z++l) (b) v=qG (some Y) v:=qaC (t);have ylb: ∀ {X Y Z v},qE (tri h a b c X Y Z) (b) v=qG (some Y) v:=λ{X Y Z v}=>by have:=zlb (X:=X) (Y:=Y) (Z:=Z) (v:=v) (l:= []);simpa only[lan] using this
 have zlc: ∀ {X Y Z v l},qE (tri h a b c X Y Z++l) (c) v=qG (some Z) v:=qaD (t);have ylc: ∀ {X Y Z v},qE (tri h a b c X Y Z) (c) v=qG (some Z) v:=λ{X Y Z v}=>by have:=zlc (X:=X) (Y:=Y) (Z:=Z) (v:=v) (l:= []);simpa only[lan] using this
 cases hq:q.opn with
 |false=>
  have e1:q.nd=⟨q.out,[],false,q.jn,q.vo,q.vw,false⟩:=by unfold Br.nd;rw[hq];rfl
  rw[e1];have c1:=qwk (va:=va) t (.osl b q.vo 6 0 q.out.length) (if q.ad=true then .op a va 1 else .nilp) (.osl c q.vw 1 0 q.word.length) (.bool false) (.bool q.jn) (.bool false) (brY q) q.vw (by simp[qS];omega) rfl rfl rfl (kT q _);have hz:qcp q.vw q.word= .emp q.vw:=by rw[hw hq];rfl
  unfold brO brX;rw[hz,hq];refine acO qrQ ?_;simp (disch:=omega) only[qsW,yga,ysa,yca,qk,go_sem];refine qy c1 (by exact flk) ?_;simp (disch:=omega) only[go_sem];exact zQ trivial (by simp only[tri_len]) (jB t (jE t va ⟨q.out,[],false,q.jn,q.vo,q.vw,false⟩) (kT q _) trivial) ⟨rfl,rfl⟩ (qi)
 |true=>
  have e1:q.nd=⟨U3 q.out q.word,[],false,q.jn,q.vo,q.vw+1,false⟩:=by unfold Br.nd;rw[hq];rfl
  rw[e1];have c1:=qsH (va:=va) t q (ho hq) hm;have hn:=ho hq;unfold brO at c1 ⊢;rw[qcD hn]at c1 ⊢;rw[qcD (q:=⟨U3 q.out q.word,[],false,q.jn,q.vo,q.vw+1,false⟩) (by simp only[UC];exact hn)];unfold brX at c1 ⊢;rw[hq]at c1 ⊢;refine acO qrQ ?_;simp (disch:=omega) only[qsW,yga,ysa,yca,qk,go_sem]
  repeat' first|(refine cA (c1) flk ?_;simp (disch:=omega) only[yca,qk,go_sem])
  refine qy (qE4 a va c q.vw (.osl b q.vo 6 0 q.out.length) (.bool true) (.bool q.jn) (.bool false) (if q.ad=true then .op a va 1 else .nilp) q.word _ (λe=>t.ac e.symm) yga ygc) (by exact flk) ?_;have hL:=jA q.out;have k3:((q.out.length-1)*6+1<=q.out.length*6)=True:=wh;have hX:=qnx (L:=q.out) q.word hn;have c2:=qwk (va:=va) t (.osl b q.vo 6 0 q.out.length) (if q.ad=true then .op a va 1 else .nilp) (.osl c q.vw 1 0 q.word.length) (.bool false) (.bool q.jn) (.bool false) (.mem q.vo 119 (z8 (U3 q.out q.word))) (q.vw+1) (by simp[qS];omega) rfl rfl rfl (j6 _ _);simp (disch:=omega) only[yga,ygb,ysa,ysb,ysc,yca,ycb,qk,hL,k3,go_sem];rw[List.append_assoc,hX];refine qy c2 (by exact flk) ?_;simp (disch:=omega) only[go_sem];have eL:=UC q.out q.word;simp only[eL];exact zQ trivial (by simp only[tri_len]) (jB t (by have:=jE t va ⟨q.out,[],false,q.jn,q.vo,q.vw+1,false⟩;exact this) (j6 _ _) trivial) ⟨rfl,rfl⟩ (qi)
end
end RC
end
section
open Go Go.Proofs AF HY LN
namespace RC
section
variable {h : we} {a b c va : Nat}
theorem qwl(t:T3 h a b c)(q:Br)(f:Int)(x:UInt8)(hf:f=0∨f=8)(hm:q.out.length<=1000000):ACalls Tryz.prog 345 [.op a va 0,.agg (atC 1 x),.int .i64 f] (brO h a b c va q) (.tup []) (brO h a b c va (q.st f)):=by
 have ta:=t.la;have tb:=t.lb;have tc:=t.lc;have zga: ∀ {X Y Z l},qq (a) (tri h a b c X Y Z++l)=some X:=dB (t);have yga: ∀ {X Y Z},qq (a) (tri h a b c X Y Z)=some X:=λ{X Y Z}=>by have:=zga (X:=X) (Y:=Y) (Z:=Z) (l:= []);simpa only[lan] using this
 have zgb: ∀ {X Y Z l},qq (b) (tri h a b c X Y Z++l)=some Y:=UE (t);have ygb: ∀ {X Y Z},qq (b) (tri h a b c X Y Z)=some Y:=λ{X Y Z}=>by have:=zgb (X:=X) (Y:=Y) (Z:=Z) (l:= []);simpa only[lan] using this
 have zgc: ∀ {X Y Z l},qq (c) (tri h a b c X Y Z++l)=some Z:=ey (t);have ygc: ∀ {X Y Z},qq (c) (tri h a b c X Y Z)=some Z:=λ{X Y Z}=>by have:=zgc (X:=X) (Y:=Y) (Z:=Z) (l:= []);simpa only[lan] using this
 have zsa: ∀ {X Y Z o l},qn (a) (tri h a b c X Y Z++l) o=tri h a b c o Y Z++l:=UF (t);have ysa: ∀ {X Y Z o},qn (a) (tri h a b c X Y Z) o=tri h a b c o Y Z:=λ{X Y Z o}=>by have:=zsa (X:=X) (Y:=Y) (Z:=Z) (o:=o) (l:= []);simpa only[lan] using this
 have zsb: ∀ {X Y Z o l},qn (b) (tri h a b c X Y Z++l) o=tri h a b c X o Z++l:=UQ (t);have ysb: ∀ {X Y Z o},qn (b) (tri h a b c X Y Z) o=tri h a b c X o Z:=λ{X Y Z o}=>by have:=zsb (X:=X) (Y:=Y) (Z:=Z) (o:=o) (l:= []);simpa only[lan] using this
 have zsc: ∀ {X Y Z o l},qn (c) (tri h a b c X Y Z++l) o=tri h a b c X Y o++l:=UR (t);have ysc: ∀ {X Y Z o},qn (c) (tri h a b c X Y Z) o=tri h a b c X Y o:=λ{X Y Z o}=>by have:=zsc (X:=X) (Y:=Y) (Z:=Z) (o:=o) (l:= []);simpa only[lan] using this
 have zca: ∀ {X Y Z v l},cellsOf (tri h a b c X Y Z++l) (a) v=qr (some X) v:=qay (t);have yca: ∀ {X Y Z v},cellsOf (tri h a b c X Y Z) (a) v=qr (some X) v:=λ{X Y Z v}=>by have:=zca (X:=X) (Y:=Y) (Z:=Z) (v:=v) (l:= []);simpa only[lan] using this
 have zcb: ∀ {X Y Z v l},cellsOf (tri h a b c X Y Z++l) (b) v=qr (some Y) v:=qaz (t);have ycb: ∀ {X Y Z v},cellsOf (tri h a b c X Y Z) (b) v=qr (some Y) v:=λ{X Y Z v}=>by have:=zcb (X:=X) (Y:=Y) (Z:=Z) (v:=v) (l:= []);simpa only[lan] using this
 have zcc: ∀ {X Y Z v l},cellsOf (tri h a b c X Y Z++l) (c) v=qr (some Z) v:=qaA (t);have ycc: ∀ {X Y Z v},cellsOf (tri h a b c X Y Z) (c) v=qr (some Z) v:=λ{X Y Z v}=>by have:=zcc (X:=X) (Y:=Y) (Z:=Z) (v:=v) (l:= []);simpa only[lan] using this
 have zla: ∀ {X Y Z v l},qE (tri h a b c X Y Z++l) (a) v=qG (some X) v:=qaB (t);have yla: ∀ {X Y Z v},qE (tri h a b c X Y Z) (a) v=qG (some X) v:=λ{X Y Z v}=>by have:=zla (X:=X) (Y:=Y) (Z:=Z) (v:=v) (l:= []);simpa only[lan] using this
 have zlb: ∀ {X Y Z v l},qE (tri h a b c X Y Z++l) (b) v=qG (some Y) v:=qaC (t);have ylb: ∀ {X Y Z v},qE (tri h a b c X Y Z) (b) v=qG (some Y) v:=λ{X Y Z v}=>by have:=zlb (X:=X) (Y:=Y) (Z:=Z) (v:=v) (l:= []);simpa only[lan] using this
 have zlc: ∀ {X Y Z v l},qE (tri h a b c X Y Z++l) (c) v=qG (some Z) v:=qaD (t);have ylc: ∀ {X Y Z v},qE (tri h a b c X Y Z) (c) v=qG (some Z) v:=λ{X Y Z v}=>by have:=zlc (X:=X) (Y:=Y) (Z:=Z) (v:=v) (l:= []);simpa only[lan] using this
 have hL:=jA q.out;obtain⟨g,hg⟩:=wc (f+jfl q.jn q.out.length)
 have e1:q.st f=⟨q.out++ [tkF g []],q.word,q.opn,true,q.vo+1,q.vw,q.ad⟩:=by unfold Br.st;rw[hg]
 rw[e1];have o1:=qic (v:=q.vo) (ty:=119) (cs:=z8 q.out);have k3:(q.out.length*6<=q.out.length*6)=True:=eqt (nlr _);have a2: ∀(x1:AV) (r:wg),qgh (some (zw q.vo 119 (z8 q.out))) 119 q.vo (q.out.length*6) 1 (x1::r)=zw (q.vo+1) 119 (z8 q.out++x1::r):=λx1 r=>by rw[appO_own1,ltl om]
 have eLn:(q.out++ [tkF g []]).length=q.out.length+1:=by simp
 have hfin:z8 q.out++ [.str [],.str [],.str [],.int .i64 0,.int .i64 g,.str []]=z8 (q.out++ [tkF g []]):=by rw[qdX,qg9];rfl
 unfold brO brX brY
 by_cases hj:q.jn=true∧0<q.out.length
 ·obtain⟨hj,hn⟩:=hj;have k1:((0:Int)<q.out.length)=True:=wh;have hg:g=f+16:=by rw[hg];unfold jfl;rw[ipo ⟨hj,hn⟩]
  have eo:fb .or (.int .i64 f) (.int .i64 16)= .int .i64 g:=by
   rw[hg];rcases hf with rfl|rfl<;>rfl
  rw[hj];unfold atC;refine acO qla ?_;simp (disch:=omega) only[qoK,zca,zlb,qk,qX,k1,eo,go_sem]
  repeat' first|with_reducible apply aiA|exact clz|fail
  refine kg ?Ta ?Ha ?h1 ?h2
  case h1=>
   simp (disch:=omega) only[zga,zgb,zsa,zsb,zca,zcb,zlb,qk,qX,qce,o1,hL,k3,a2,go_sem]
   repeat' first|with_reducible apply aiA
   all_goals first
    |omega
    |rfl
    |(rw[bne_iff_ne];omega)
    |skip
  case h2=>
  simp (disch:=omega) only[zga,zsa,zca,qk,go_sem];rw[hfin];simp only[eLn];exact zK trivial (by simp only[tri_len]) (jB t (by have:=jE t va ⟨q.out++ [tkF g []],q.word,q.opn,true,q.vo+1,q.vw,q.ad⟩;simpa only[brX,eLn] using this) (jl (j6 _ _)) (zX _ _ _)) ⟨rfl,rfl⟩ (qi)
 ·have hg:g=f:=by rw[hg];unfold jfl;rw[ine hj];omega
  subst hg;unfold atC;cases hj2:q.jn with
  |false=>
   refine acO qla ?_;simp (disch:=omega) only[qoK,zca,zlb,qk,qX,go_sem]
   repeat' first|(with_reducible first|intro _|apply aiA)|exact clz|fail
   refine kg ?Tb ?Hb ?h1 ?h2
   case h1=>
    simp (disch:=omega) only[zga,zgb,zsa,zsb,zca,zcb,zlb,qk,qX,qce,o1,hL,k3,a2,go_sem]
    repeat' first|with_reducible apply aiA
    all_goals first
     |omega
     |rfl
     |(rw[bne_iff_ne];omega)
     |skip
   case h2=>
   simp (disch:=omega) only[zga,zsa,zca,qk,go_sem];rw[hfin];simp only[eLn];exact zK trivial (by simp only[tri_len]) (jB t (by have:=jE t va ⟨q.out++ [tkF g []],q.word,q.opn,true,q.vo+1,q.vw,q.ad⟩;simpa only[brX,eLn] using this) (jl (j6 _ _)) (zX _ _ _)) ⟨rfl,rfl⟩ (qi)
  |true=>
   have k1:((0:Int)<q.out.length)=False:=eqf (λhc=>hj ⟨hj2,om⟩);refine acO qla ?_;simp (disch:=omega) only[qoK,zca,zlb,qk,qX,k1,go_sem]
   repeat' first|with_reducible apply aiA|exact clz|fail
   refine kg ?Tc ?Hc ?h1 ?h2
   case h1=>
    simp (disch:=omega) only[zga,zgb,zsa,zsb,zca,zcb,zlb,qk,qX,qce,o1,hL,k3,a2,go_sem]
    repeat' first|with_reducible apply aiA
    all_goals first
     |omega
     |rfl
     |(rw[bne_iff_ne];omega)
     |skip
   case h2=>
   simp (disch:=omega) only[zga,zsa,zca,qk,go_sem];rw[hfin];simp only[eLn];exact zK trivial (by simp only[tri_len]) (jB t (by have:=jE t va ⟨q.out++ [tkF g []],q.word,q.opn,true,q.vo+1,q.vw,q.ad⟩;simpa only[brX,eLn] using this) (jl (j6 _ _)) (zX _ _ _)) ⟨rfl,rfl⟩ (qi)
end
end RC
end
section
open Go Go.Proofs AF
def qpI:List Nat:= [277,278,377,347,287,344,288,345,290,346]
@[go_sem]def vn:DT:= DT.one ⟨some 20,none,.nilchk,[.t 15]⟩ (DT.one ⟨some 21,none,.fldA 0,[.t 20]⟩ (DT.one ⟨none,none,.store 1,[.t 21,.t 19]⟩ DT.nil))
@[go_sem]def vp:DT:= DT.one ⟨some 18,none,.bslc 1 1 1 5 [.int .u8 0] [(0,1)],[.t 17]⟩ (DT.one ⟨some 19,none,.b2s,[.t 18]⟩ vn)
def qfo:C:=
 (vS [O1 3 (.box 0 348) 1] (vS [vM 4 0] ((vS [vL 5 5 3,LD 6 5] (vT 6 (vW [vM 4 1]))).seq (C.block 0 (vS [MV 23 0,O1 24 .nilchk 23,vL 25 3 24,LD 26 25,MV 27 26,P1 28 27 true
 (.fldA 1) 3,P1 29 27 true (.load none) 28,P1 30 27 true (.call 309 true) 29,PF 31 27 30,MV 22 31] (C.cond (.t 22) (vS [MV 32 0,O1 33 (.call 346 false) 32,O1 34 .nilchk 33,vL 35
 4 34,LD 36 35,MV 37 4,BI 38 .or 36 37,O1 39 .nilchk 33,vL 40 4 39,ST 1 40 38] (vW [MV 41 0,O1 42 .nilchk 41,vL 43 1 42,vL 44 1 3,LD 45 44,O2 46 (.call 377 false) 43 45])) (vS
 [vL 48 1 3,LD 49 48,O1 50 (.call 357 true) 49,MV 47 50] (C.cond (.t 47) (vS [MV 51 0,O1 52 (.load (some 7)) 3,MV 53 4,ON 54 (.call 345 false) [.t 51,.t 52,.t 53]] (vS [MV 55
 0,O1 56 .nilchk 55,vL 57 3 56,⟨none,none,.store 1,[.t 57,.c (.bool true)]⟩] (vW [MV 58 0,O1 59 .nilchk 58,vL 60 1 59,vL 61 1 3,LD 62 61,O2 63 (.call 377 false) 60 62]))) (vS
 [vL 65 1 3,LD 66 65,O1 67 (.call 220 true) 66,vN 68 .eql 67 6,MV 64 68] (C.cond (.t 64) (vS [MV 69 0,O1 70 (.call 288 false) 69] (vW [MV 71 0,O1 72 .nilchk 71,vL 73 4
 72,⟨none,none,.store 1,[.t 73,.c (.bool false)]⟩])) (vS [MV 7 0,O1 8 (.call 288 false) 7] (vS [MV 9 0,O1 10 (.load (some 7)) 3,MV 11 4,vN 12 .or 11 8,ON 13 (.call 345 false)
 [.t 9,.t 10,.t 12]] (C.draw (DT.one ⟨some 14,none,.mv,[.t 0]⟩ ((DT.one ⟨some 15,none,.call 346 false,[.t 14]⟩ (DT.one ⟨some 16,none,.fldA 1,[.t 3]⟩ (DT.one ⟨some 17,none,.load
 none,[.t 16]⟩ vp))).two (DT.one ⟨some 16,none,.fldA 1,[.t 3]⟩ ((DT.one ⟨some 15,none,.call 346 false,[.t 14]⟩ (DT.one ⟨some 17,none,.load none,[.t 16]⟩ vp)).two (DT.one ⟨some
 17,none,.load none,[.t 16]⟩ ((DT.one ⟨some 15,none,.call 346 false,[.t 14]⟩ vp).two (DT.one ⟨some 18,none,.bslc 1 1 1 5 [.int .u8 0] [(0,1)],[.t 17]⟩ ((DT.one ⟨some
 15,none,.call 346 false,[.t 14]⟩ (DT.one ⟨some 19,none,.b2s,[.t 18]⟩ vn)).two (DT.one ⟨some 19,none,.b2s,[.t 18]⟩ (DT.one ⟨some 15,none,.call 346 false,[.t 14]⟩
 vn)))))))))))))))))))))))
theorem qcO:qK Tryz.prog 344 74 2 [] qfo:=fi Tryz.f344 [3,18] qpI []
end
section
open Go Go.Proofs AF HY LN
namespace RC
section
variable {h : we} {a b c va : Nat}
theorem US(t:T3 h a b c)(q:Br)(l:we):brO (h++l) a b c va q=brO h a b c va q++l:=qvq t
theorem qkh{f:FuncId}{args:wg}{r:AV}{q q':Br}(hc: ∀h,T3 h a b c->ACalls Tryz.prog f args (brO h a b c va q) r (brO h a b c va q'))(t:T3 h a b c)(l:we):ACalls Tryz.prog f args (brO h a b c va q++l) r (brO h a b c va q'++l):=by
 have:=hc (h++l) (t.app l)
 rwa [US t,US t]at this
structure qBn (q:Br):Prop where
 op:q.opn=true->0<q.out.length∧((q.out.getD (q.out.length-1) default).flags=0∨(q.out.getD (q.out.length-1) default).flags=16)
 cl:q.opn=false->q.word= []
 n:q.out.length<=900000
 w:q.word.length<=900000
theorem qwm(q:Br):(if q.ad=true then AV.op a va 1 else .nilp)= .nilp∨(if q.ad=true then AV.op a va 1 else .nilp)= .op a va 1:=by
 split
 ·exact .inr rfl
 ·exact .inl rfl
theorem qe6{α:Type}{L:List α}{k:Nat}{x:α}(h:L[k]? =some x):L.take k++ [x]++L.drop (k+1)=L:=by
 obtain⟨h1,h2⟩:=lgs.1 h;rw[List.append_assoc,List.singleton_append,<-h2,<-List.drop_eq_getElem_cons h1,List.take_append_drop]
theorem qDt(t:T3 h a b c)(q:Br)(x:UInt8)(l:we)(hw:q.word.length<=1000000):ACalls Tryz.prog 377 [.op a va 1,.int .u8 (x.toNat:Int)] (brO h a b c va q++l) .nilif (brO h a b c va (q.wb x)++l):=by
 have ta:=t.la;have tb:=t.lb;have tc:=t.lc;have zga: ∀ {X Y Z l},qq (a) (tri h a b c X Y Z++l)=some X:=dB (t);have yga: ∀ {X Y Z},qq (a) (tri h a b c X Y Z)=some X:=λ{X Y Z}=>by have:=zga (X:=X) (Y:=Y) (Z:=Z) (l:= []);simpa only[lan] using this
 have zgb: ∀ {X Y Z l},qq (b) (tri h a b c X Y Z++l)=some Y:=UE (t);have ygb: ∀ {X Y Z},qq (b) (tri h a b c X Y Z)=some Y:=λ{X Y Z}=>by have:=zgb (X:=X) (Y:=Y) (Z:=Z) (l:= []);simpa only[lan] using this
 have zgc: ∀ {X Y Z l},qq (c) (tri h a b c X Y Z++l)=some Z:=ey (t);have ygc: ∀ {X Y Z},qq (c) (tri h a b c X Y Z)=some Z:=λ{X Y Z}=>by have:=zgc (X:=X) (Y:=Y) (Z:=Z) (l:= []);simpa only[lan] using this
 have zsa: ∀ {X Y Z o l},qn (a) (tri h a b c X Y Z++l) o=tri h a b c o Y Z++l:=UF (t);have ysa: ∀ {X Y Z o},qn (a) (tri h a b c X Y Z) o=tri h a b c o Y Z:=λ{X Y Z o}=>by have:=zsa (X:=X) (Y:=Y) (Z:=Z) (o:=o) (l:= []);simpa only[lan] using this
 have zsb: ∀ {X Y Z o l},qn (b) (tri h a b c X Y Z++l) o=tri h a b c X o Z++l:=UQ (t);have ysb: ∀ {X Y Z o},qn (b) (tri h a b c X Y Z) o=tri h a b c X o Z:=λ{X Y Z o}=>by have:=zsb (X:=X) (Y:=Y) (Z:=Z) (o:=o) (l:= []);simpa only[lan] using this
 have zsc: ∀ {X Y Z o l},qn (c) (tri h a b c X Y Z++l) o=tri h a b c X Y o++l:=UR (t);have ysc: ∀ {X Y Z o},qn (c) (tri h a b c X Y Z) o=tri h a b c X Y o:=λ{X Y Z o}=>by have:=zsc (X:=X) (Y:=Y) (Z:=Z) (o:=o) (l:= []);simpa only[lan] using this
 have zca: ∀ {X Y Z v l},cellsOf (tri h a b c X Y Z++l) (a) v=qr (some X) v:=qay (t);have yca: ∀ {X Y Z v},cellsOf (tri h a b c X Y Z) (a) v=qr (some X) v:=λ{X Y Z v}=>by have:=zca (X:=X) (Y:=Y) (Z:=Z) (v:=v) (l:= []);simpa only[lan] using this
 have zcb: ∀ {X Y Z v l},cellsOf (tri h a b c X Y Z++l) (b) v=qr (some Y) v:=qaz (t);have ycb: ∀ {X Y Z v},cellsOf (tri h a b c X Y Z) (b) v=qr (some Y) v:=λ{X Y Z v}=>by have:=zcb (X:=X) (Y:=Y) (Z:=Z) (v:=v) (l:= []);simpa only[lan] using this
 have zcc: ∀ {X Y Z v l},cellsOf (tri h a b c X Y Z++l) (c) v=qr (some Z) v:=qaA (t);have ycc: ∀ {X Y Z v},cellsOf (tri h a b c X Y Z) (c) v=qr (some Z) v:=λ{X Y Z v}=>by have:=zcc (X:=X) (Y:=Y) (Z:=Z) (v:=v) (l:= []);simpa only[lan] using this
 have zla: ∀ {X Y Z v l},qE (tri h a b c X Y Z++l) (a) v=qG (some X) v:=qaB (t);have yla: ∀ {X Y Z v},qE (tri h a b c X Y Z) (a) v=qG (some X) v:=λ{X Y Z v}=>by have:=zla (X:=X) (Y:=Y) (Z:=Z) (v:=v) (l:= []);simpa only[lan] using this
 have zlb: ∀ {X Y Z v l},qE (tri h a b c X Y Z++l) (b) v=qG (some Y) v:=qaC (t);have ylb: ∀ {X Y Z v},qE (tri h a b c X Y Z) (b) v=qG (some Y) v:=λ{X Y Z v}=>by have:=zlb (X:=X) (Y:=Y) (Z:=Z) (v:=v) (l:= []);simpa only[lan] using this
 have zlc: ∀ {X Y Z v l},qE (tri h a b c X Y Z++l) (c) v=qG (some Z) v:=qaD (t);have ylc: ∀ {X Y Z v},qE (tri h a b c X Y Z) (c) v=qG (some Z) v:=λ{X Y Z v}=>by have:=zlc (X:=X) (Y:=Y) (Z:=Z) (v:=v) (l:= []);simpa only[lan] using this
 have:=qFm a va c q.vw (.osl b q.vo 6 0 q.out.length) (.bool q.opn) (.bool q.jn) (.bool false) (if q.ad=true then .op a va 1 else .nilp) q.word x (brO h a b c va q++l) (by rw[lap,qde];simp[qS];omega) rfl rfl rfl (λe=>t.ac e.symm) zga (qwm q) zgc om
 have e:qn c (qn a (brO h a b c va q++l) (.mem va 343 [.osl b q.vo 6 0 q.out.length,.op a va 1,.osl c (q.vw+1) 1 0 (q.word.length+1),.bool q.opn,.bool q.jn,.bool false])) (qcp (q.vw+1) (q.word++ [x]))=brO h a b c va (q.wb x)++l:=by
  unfold brO;rw[zsa,zsc];unfold brX brY Br.wb;simp
 rw[e]at this;exact this
theorem qBJ(t:T3 h a b c)(q:Br)(x:UInt8)(hq:qBn q):ACalls Tryz.prog 344 [.op a va 0,.agg (atC 1 x)] (brO h a b c va q) (.tup []) (brO h a b c va (q.pt x)):=by
 have ta:=t.la;have tb:=t.lb;have tc:=t.lc;have hn:=hq.n;have hw:=hq.w;have zga: ∀ {X Y Z l},qq (a) (tri h a b c X Y Z++l)=some X:=dB (t);have yga: ∀ {X Y Z},qq (a) (tri h a b c X Y Z)=some X:=λ{X Y Z}=>by have:=zga (X:=X) (Y:=Y) (Z:=Z) (l:= []);simpa only[lan] using this
 have zgb: ∀ {X Y Z l},qq (b) (tri h a b c X Y Z++l)=some Y:=UE (t);have ygb: ∀ {X Y Z},qq (b) (tri h a b c X Y Z)=some Y:=λ{X Y Z}=>by have:=zgb (X:=X) (Y:=Y) (Z:=Z) (l:= []);simpa only[lan] using this
 have zgc: ∀ {X Y Z l},qq (c) (tri h a b c X Y Z++l)=some Z:=ey (t);have ygc: ∀ {X Y Z},qq (c) (tri h a b c X Y Z)=some Z:=λ{X Y Z}=>by have:=zgc (X:=X) (Y:=Y) (Z:=Z) (l:= []);simpa only[lan] using this
 have zsa: ∀ {X Y Z o l},qn (a) (tri h a b c X Y Z++l) o=tri h a b c o Y Z++l:=UF (t);have ysa: ∀ {X Y Z o},qn (a) (tri h a b c X Y Z) o=tri h a b c o Y Z:=λ{X Y Z o}=>by have:=zsa (X:=X) (Y:=Y) (Z:=Z) (o:=o) (l:= []);simpa only[lan] using this
 have zsb: ∀ {X Y Z o l},qn (b) (tri h a b c X Y Z++l) o=tri h a b c X o Z++l:=UQ (t);have ysb: ∀ {X Y Z o},qn (b) (tri h a b c X Y Z) o=tri h a b c X o Z:=λ{X Y Z o}=>by have:=zsb (X:=X) (Y:=Y) (Z:=Z) (o:=o) (l:= []);simpa only[lan] using this
 have zsc: ∀ {X Y Z o l},qn (c) (tri h a b c X Y Z++l) o=tri h a b c X Y o++l:=UR (t);have ysc: ∀ {X Y Z o},qn (c) (tri h a b c X Y Z) o=tri h a b c X Y o:=λ{X Y Z o}=>by have:=zsc (X:=X) (Y:=Y) (Z:=Z) (o:=o) (l:= []);simpa only[lan] using this
 have zca: ∀ {X Y Z v l},cellsOf (tri h a b c X Y Z++l) (a) v=qr (some X) v:=qay (t);have yca: ∀ {X Y Z v},cellsOf (tri h a b c X Y Z) (a) v=qr (some X) v:=λ{X Y Z v}=>by have:=zca (X:=X) (Y:=Y) (Z:=Z) (v:=v) (l:= []);simpa only[lan] using this
 have zcb: ∀ {X Y Z v l},cellsOf (tri h a b c X Y Z++l) (b) v=qr (some Y) v:=qaz (t);have ycb: ∀ {X Y Z v},cellsOf (tri h a b c X Y Z) (b) v=qr (some Y) v:=λ{X Y Z v}=>by have:=zcb (X:=X) (Y:=Y) (Z:=Z) (v:=v) (l:= []);simpa only[lan] using this
 have zcc: ∀ {X Y Z v l},cellsOf (tri h a b c X Y Z++l) (c) v=qr (some Z) v:=qaA (t);have ycc: ∀ {X Y Z v},cellsOf (tri h a b c X Y Z) (c) v=qr (some Z) v:=λ{X Y Z v}=>by have:=zcc (X:=X) (Y:=Y) (Z:=Z) (v:=v) (l:= []);simpa only[lan] using this
 have zla: ∀ {X Y Z v l},qE (tri h a b c X Y Z++l) (a) v=qG (some X) v:=qaB (t);have yla: ∀ {X Y Z v},qE (tri h a b c X Y Z) (a) v=qG (some X) v:=λ{X Y Z v}=>by have:=zla (X:=X) (Y:=Y) (Z:=Z) (v:=v) (l:= []);simpa only[lan] using this
 have zlb: ∀ {X Y Z v l},qE (tri h a b c X Y Z++l) (b) v=qG (some Y) v:=qaC (t);have ylb: ∀ {X Y Z v},qE (tri h a b c X Y Z) (b) v=qG (some Y) v:=λ{X Y Z v}=>by have:=zlb (X:=X) (Y:=Y) (Z:=Z) (v:=v) (l:= []);simpa only[lan] using this
 have zlc: ∀ {X Y Z v l},qE (tri h a b c X Y Z++l) (c) v=qG (some Z) v:=qaD (t);have ylc: ∀ {X Y Z v},qE (tri h a b c X Y Z) (c) v=qG (some Z) v:=λ{X Y Z v}=>by have:=zlc (X:=X) (Y:=Y) (Z:=Z) (v:=v) (l:= []);simpa only[lan] using this
 by_cases g1:q.opn=true∧UX x=true
 ·rw[show q.pt x=q.wb x from by unfold Br.pt;rw[ipo g1]];obtain⟨g1,g2⟩:=g1;obtain⟨hop,hfl⟩:=hq.op g1;have c1:=λh=>qBv x h
  simp only[g2]at c1;have c2:=λl=>qsH (va:=va) (t.app l) q hop om
  simp only[US t]at c2;have c3:=λl=>qDt (va:=va) t q x l om
  have hL:=jA q.out;obtain⟨F,hF⟩:=wc ((q.out.getD (q.out.length-1) default).flags)
  rw[<-hF]at hfl;have g4:(z8 q.out)[(q.out.length-1)*6+4]? =some (.int .i64 F):=by rw[qdY om om,hF];rfl
  have e0:fb .or (.int .i64 F) (.int .i64 0)= .int .i64 F:=by rcases hfl with rfl|rfl<;>rfl
  have k3:((q.out.length-1)*6+4+1<=q.out.length*6)=True:=wh;have k4:((q.out.length-1)*6+4<q.out.length*6)=True:=wh;have e5:=qe6 g4;unfold brO at c2 c3 ⊢;rw[qcD hop]at c2 c3 ⊢;unfold brX at c2 c3 ⊢;rw[g1]at c2 c3 ⊢;unfold atC;refine acO qcO ?_;simp (disch:=omega) only[qfo,zca,qk,go_sem]
  repeat' first|(refine cG (λe=>c1 _) flk ?_;simp (disch:=omega) only[go_sem])
  refine qy (c2 _) (by exact flk) ?_;simp (disch:=omega) only[zgb,zsb,zca,zcb,qk,hL,g4,e0,k3,k4,e5,go_sem];refine qy (c3 _) (by exact flk) ?_;simp (disch:=omega) only[go_sem];exact zK trivial (by simp only[tri_len]) (jB t (jE t va (q.wb x)) (kT _ _) (zX _ _ _)) ⟨rfl,rfl⟩ (qi)
 by_cases g2:bgn x=true
 ·rw[show q.pt x=((q.st 0).op).wb x from by unfold Br.pt;rw[ine g1,ipo g2]];have g3:q.opn=false:=by
   cases ho:q.opn with
   |false=>rfl
   |true=>exact absurd ⟨ho,U8 g2⟩ g1
  have c1:=λh=>qBr x h
  rw[show (decide (kind x=1)||decide (kind x=3))=true from g2]at c1;have c2:=λl=>qwl (va:=va) (t.app l) q 0 x (.inl rfl) om
  simp only[US t]at c2;have c3:=λl=>qDt (va:=va) t (q.st 0).op x l (by show q.word.length<=_;omega)
  unfold brO brX at c2 c3 ⊢;rw[g3]at c2 ⊢;unfold atC at c2 ⊢;refine acO qcO ?_;simp (disch:=omega) only[qfo,zca,qk,go_sem]
  repeat' first|(refine ql ( .bool false) ?_;simp (disch:=omega) only[go_sem])|(refine cA (c1 _) flk ?_;simp (disch:=omega) only[go_sem])
  refine qy (c2 _) (by exact flk) ?_;simp (disch:=omega) only[zga,zsa,zca,qk,go_sem];refine qy (c3 _) (by exact flk) ?_;simp (disch:=omega) only[go_sem];exact zK trivial (by simp only[tri_len]) (jB t (jE t va (((q.st 0).op).wb x)) (kT _ _) (zX _ _ _)) ⟨rfl,rfl⟩ (qi)
 by_cases g3:kind x=6
 ·rw[show q.pt x=q.nd.sp from by unfold Br.pt;rw[ine g1,ine g2,ipo g3]];have c1:=λh=>qBr x h
  have hb:(decide (kind x=1)||decide (kind x=3))=false:=by simpa[bgn] using g2
  rw[hb]at c1;have c5:=λh=>qBv x h
  have c4:=λh=>qa7 x h
  rw[g3]at c4;have c2:=λl=>qsG (va:=va) (t.app l) q (λe=>(hq.op e).1) hq.cl om om
  simp only[US t]at c2;have hi:q.opn=true->UX x=false:=λe=>by
   cases hx:UX x with
   |false=>rfl
   |true=>exact absurd ⟨e,hx⟩ g1
  unfold brO brX at c2 ⊢;unfold atC;cases ho:q.opn with
  |true=>
   rw[hi ho]at c5;rw[ho]at c2;refine acO qcO ?_;simp (disch:=omega) only[qfo,zca,qk,go_sem]
   repeat' first|((first|refine cA (c1 _) ?_ ?_|refine cA (c4 _) ?_ ?_|refine cG (λe=>c5 _) ?_ ?_);exact flk;simp (disch:=omega) only[go_sem])
   refine qy (c2 _) (by exact flk) ?_;simp (disch:=omega) only[zga,zsa,zca,qk,go_sem];exact zK trivial (by simp only[tri_len]) (jB t (jE t va q.nd.sp) (kT _ _) (zX _ _ _)) ⟨rfl,rfl⟩ (qi)
  |false=>
   rw[ho]at c2;refine acO qcO ?_;simp (disch:=omega) only[qfo,zca,qk,go_sem]
   repeat' first|(refine ql ( .bool false) ?_;simp (disch:=omega) only[go_sem])|((first|refine cA (c1 _) ?_ ?_|refine cA (c4 _) ?_ ?_);exact flk;simp (disch:=omega) only[go_sem])
   refine qy (c2 _) (by exact flk) ?_;simp (disch:=omega) only[zga,zsa,zca,qk,go_sem];exact zK trivial (by simp only[tri_len]) (jB t (jE t va q.nd.sp) (kT _ _) (zX _ _ _)) ⟨rfl,rfl⟩ (qi)
 rw[show q.pt x=(q.nd.st 8).tx [x]from by unfold Br.pt;rw[ine g1,ine g2,ine g3]];have c1:=λh=>qBr x h
 have hb:(decide (kind x=1)||decide (kind x=3))=false:=by simpa[bgn] using g2
 rw[hb]at c1;have c5:=λh=>qBv x h
 have c4:=λh=>qa7 x h
 obtain⟨kx,hkx⟩:=wc (kind x)
 rw[<-hkx]at c4 g3;have q6:(kx=6)=False:=eqf g3;have c2:=λl=>qsG (va:=va) (t.app l) q (λe=>(hq.op e).1) hq.cl om om
 have hndl:q.nd.out.length=q.out.length:=by unfold Br.nd;split<;>simp only[UC]
 have c6:=λl=>qwl (va:=va) (t.app l) q.nd 8 x (.inr rfl) om
 obtain⟨r,hr⟩:=wc (q.nd.st 8)
 have hrl:0<r.out.length:=by rw[hr];show 0<(q.nd.out++ [_]).length;simp
 have hrm:r.out.length<=1000000:=by rw[hr];show (q.nd.out++ [_]).length<=_;simp;omega
 rw[<-hr]at c6 ⊢;have c7:=λl=>qsH (va:=va) (t.app l) r hrl hrm
 simp only[US t]at c2 c6 c7;have hi:q.opn=true->UX x=false:=λe=>by
  cases hx:UX x with
  |false=>rfl
  |true=>exact absurd ⟨e,hx⟩ g1
 have hL:=jA r.out;have k3:((r.out.length-1)*6+1<=r.out.length*6)=True:=wh;have hX:=qnx (L:=r.out) [x] hrl;have e8:fb .or (.int .i64 0) (.int .i64 8)= .int .i64 8:=rfl;have hY:brY (r.tx [x])= .mem r.vo 119 (z8 (U3 r.out [x])):=qcD (q:=r.tx [x]) (by show 0<(U3 r.out [x]).length;rw[UC];exact hrl);have eL:(r.tx [x]).out.length=r.out.length:=UC _ _;unfold brO at c2 c6 c7 ⊢;rw[hY];rw[qcD hrl]at c6 c7;unfold brX at c2 c6 c7 ⊢;rw[eL];unfold atC at c6 ⊢;cases ho:q.opn with
 |true=>
  rw[hi ho]at c5;rw[ho]at c2;refine acO qcO ?_;simp (disch:=omega) only[qfo,zca,qk,go_sem]
  repeat' first|((first|refine cA (c1 _) ?_ ?_|refine cA (c4 _) ?_ ?_|refine cG (λe=>c5 _) ?_ ?_);exact flk;simp (disch:=omega) only[q6,go_sem])
  refine qy (c2 _) (by exact flk) ?_;simp (disch:=omega) only[e8,go_sem];refine qy (c6 _) (by exact flk) ?_;simp (disch:=omega) only[go_sem];refine kg ?Ta ?Ha ?h1 ?h2
  case h1=>
   simp (disch:=omega) only[go_sem]
   repeat' first|(with_reducible apply aiA)|(refine qy (c7 _) (by exact flk) ?_;simp (disch:=omega) only[zgb,zsb,zcb,qk,hL,k3,go_sem])
   all_goals first
    |omega
    |rfl
    |(intro y hy;rw[List.mem_singleton]at hy;subst hy;exact qeC x)
    |skip
  case h2=>
  simp (disch:=omega) only[go_sem];rw[qem x,List.append_assoc,hX];exact zK trivial (by simp only[tri_len]) (jB t (jE t va r) (j6 _ _) (zX _ _ _)) ⟨rfl,rfl⟩ (qi)
 |false=>
  rw[ho]at c2;refine acO qcO ?_;simp (disch:=omega) only[qfo,zca,qk,go_sem]
  repeat' first|(refine ql ( .bool false) ?_;simp (disch:=omega) only[go_sem])|((first|refine cA (c1 _) ?_ ?_|refine cA (c4 _) ?_ ?_);exact flk;simp (disch:=omega) only[q6,go_sem])
  refine qy (c2 _) (by exact flk) ?_;simp (disch:=omega) only[e8,go_sem];refine qy (c6 _) (by exact flk) ?_;simp (disch:=omega) only[go_sem];refine kg ?Tb ?Hb ?h1 ?h2
  case h1=>
   simp (disch:=omega) only[go_sem]
   repeat' first|(with_reducible apply aiA)|(refine qy (c7 _) (by exact flk) ?_;simp (disch:=omega) only[zgb,zsb,zcb,qk,hL,k3,go_sem])
   all_goals first
    |omega
    |rfl
    |(intro y hy;rw[List.mem_singleton]at hy;subst hy;exact qeC x)
    |skip
  case h2=>
  simp (disch:=omega) only[go_sem];rw[qem x,List.append_assoc,hX];exact zK trivial (by simp only[tri_len]) (jB t (jE t va r) (j6 _ _) (zX _ _ _)) ⟨rfl,rfl⟩ (qi)
theorem qBI(t:T3 h a b c)(q:Br)(x:UInt8)(hq:qBn q):ACalls Tryz.prog 287 [.op a va 0,.agg (atC 1 x)] (brO h a b c va q) (.tup []) (brO h a b c va (q.pt x)):=by
 have ta:=t.la;have tb:=t.lb;have tc:=t.lc;have zga: ∀ {X Y Z l},qq (a) (tri h a b c X Y Z++l)=some X:=dB (t);have yga: ∀ {X Y Z},qq (a) (tri h a b c X Y Z)=some X:=λ{X Y Z}=>by have:=zga (X:=X) (Y:=Y) (Z:=Z) (l:= []);simpa only[lan] using this
 have zgb: ∀ {X Y Z l},qq (b) (tri h a b c X Y Z++l)=some Y:=UE (t);have ygb: ∀ {X Y Z},qq (b) (tri h a b c X Y Z)=some Y:=λ{X Y Z}=>by have:=zgb (X:=X) (Y:=Y) (Z:=Z) (l:= []);simpa only[lan] using this
 have zgc: ∀ {X Y Z l},qq (c) (tri h a b c X Y Z++l)=some Z:=ey (t);have ygc: ∀ {X Y Z},qq (c) (tri h a b c X Y Z)=some Z:=λ{X Y Z}=>by have:=zgc (X:=X) (Y:=Y) (Z:=Z) (l:= []);simpa only[lan] using this
 have zsa: ∀ {X Y Z o l},qn (a) (tri h a b c X Y Z++l) o=tri h a b c o Y Z++l:=UF (t);have ysa: ∀ {X Y Z o},qn (a) (tri h a b c X Y Z) o=tri h a b c o Y Z:=λ{X Y Z o}=>by have:=zsa (X:=X) (Y:=Y) (Z:=Z) (o:=o) (l:= []);simpa only[lan] using this
 have zsb: ∀ {X Y Z o l},qn (b) (tri h a b c X Y Z++l) o=tri h a b c X o Z++l:=UQ (t);have ysb: ∀ {X Y Z o},qn (b) (tri h a b c X Y Z) o=tri h a b c X o Z:=λ{X Y Z o}=>by have:=zsb (X:=X) (Y:=Y) (Z:=Z) (o:=o) (l:= []);simpa only[lan] using this
 have zsc: ∀ {X Y Z o l},qn (c) (tri h a b c X Y Z++l) o=tri h a b c X Y o++l:=UR (t);have ysc: ∀ {X Y Z o},qn (c) (tri h a b c X Y Z) o=tri h a b c X Y o:=λ{X Y Z o}=>by have:=zsc (X:=X) (Y:=Y) (Z:=Z) (o:=o) (l:= []);simpa only[lan] using this
 have zca: ∀ {X Y Z v l},cellsOf (tri h a b c X Y Z++l) (a) v=qr (some X) v:=qay (t);have yca: ∀ {X Y Z v},cellsOf (tri h a b c X Y Z) (a) v=qr (some X) v:=λ{X Y Z v}=>by have:=zca (X:=X) (Y:=Y) (Z:=Z) (v:=v) (l:= []);simpa only[lan] using this
 have zcb: ∀ {X Y Z v l},cellsOf (tri h a b c X Y Z++l) (b) v=qr (some Y) v:=qaz (t);have ycb: ∀ {X Y Z v},cellsOf (tri h a b c X Y Z) (b) v=qr (some Y) v:=λ{X Y Z v}=>by have:=zcb (X:=X) (Y:=Y) (Z:=Z) (v:=v) (l:= []);simpa only[lan] using this
 have zcc: ∀ {X Y Z v l},cellsOf (tri h a b c X Y Z++l) (c) v=qr (some Z) v:=qaA (t);have ycc: ∀ {X Y Z v},cellsOf (tri h a b c X Y Z) (c) v=qr (some Z) v:=λ{X Y Z v}=>by have:=zcc (X:=X) (Y:=Y) (Z:=Z) (v:=v) (l:= []);simpa only[lan] using this
 have zla: ∀ {X Y Z v l},qE (tri h a b c X Y Z++l) (a) v=qG (some X) v:=qaB (t);have yla: ∀ {X Y Z v},qE (tri h a b c X Y Z) (a) v=qG (some X) v:=λ{X Y Z v}=>by have:=zla (X:=X) (Y:=Y) (Z:=Z) (v:=v) (l:= []);simpa only[lan] using this
 have zlb: ∀ {X Y Z v l},qE (tri h a b c X Y Z++l) (b) v=qG (some Y) v:=qaC (t);have ylb: ∀ {X Y Z v},qE (tri h a b c X Y Z) (b) v=qG (some Y) v:=λ{X Y Z v}=>by have:=zlb (X:=X) (Y:=Y) (Z:=Z) (v:=v) (l:= []);simpa only[lan] using this
 have zlc: ∀ {X Y Z v l},qE (tri h a b c X Y Z++l) (c) v=qG (some Z) v:=qaD (t);have ylc: ∀ {X Y Z v},qE (tri h a b c X Y Z) (c) v=qG (some Z) v:=λ{X Y Z v}=>by have:=zlc (X:=X) (Y:=Y) (Z:=Z) (v:=v) (l:= []);simpa only[lan] using this
 have c2:=λl=>qBJ (va:=va) (t.app l) q x hq
 simp only[US t]at c2;unfold brO brX at c2 ⊢;unfold atC at c2 ⊢;refine acO qyN ?_;simp (disch:=omega) only[qxa,go_sem];refine qy (c2 _) (by exact flk) ?_;simp (disch:=omega) only[go_sem];exact zK trivial (by simp only[tri_len]) (jB t (jE t va (q.pt x)) (kT _ _) (zX _ _ _)) ⟨rfl,rfl⟩ (qi)
end
structure BrB (q:Br) (b:Bs):Prop where
 out:q.out=b.out
 word:q.word=b.word
 opn:q.opn=b.opn
 jn:q.jn=b.jn
theorem qc5(L:List Tk)(f:Int)(w:Str):U3 (L++ [tkF f []]) w=L++ [tkF f w]:=by
 unfold U3;have e:(L++ [tkF f []]).length-1=L.length:=by simp
 rw[e];have g:(L++ [tkF f []]).getD L.length default=tkF f []:=by
  have:=qaN (L:=L) (M:= [tkF f []]) (a:=default) (i:=0)
  rw[Nat.add_zero]at this;rw[this];rfl
 rw[g,List.set_append_right _ _ (nlr _),Nat.sub_self];rfl
theorem qr8{q:Br}{b:Bs}{s:Str}(h:BrB q b)(hb:qoj s b):q.nd.out=b.fin∧q.nd.word= []∧q.nd.opn=false∧q.nd.jn=b.jn:=by
 unfold Br.nd Bs.fin;cases ho:b.opn with
 |true=>
  rw[ipo (by rw[h.opn,ho]),ipo rfl];refine⟨?_,rfl,rfl,h.jn⟩;show U3 q.out q.word=_;rw[h.out,h.word];unfold Bs.out;rw[ipo ho,qc5]
 |false=>
  rw[ine (by rw[h.opn,ho];simp),ine (by simp),lan];refine⟨?_,rfl,rfl,h.jn⟩;show q.out=_;rw[h.out];unfold Bs.out;rw[ine (by rw[ho];simp),lan]
theorem qz4{q:Br}{b:Bs}{s:Str}(h:BrB q b)(hb:qoj s b)(c:UInt8):BrB (q.pt c) (b.stp c):=by
 obtain⟨n1,n2,n3,n4⟩:=qr8 h hb;unfold Br.pt Bs.stp
 by_cases g1:b.opn=true∧UX c=true
 ·rw[ipo (by rw[h.opn];exact g1),ipo g1];refine⟨?_,?_,?_,h.jn⟩
  ·show q.out=_;rw[h.out];unfold Bs.out;rw[ipo g1.1,ipo rfl]
  ·show q.word++ [c]=_;rw[h.word]
  ·show q.opn=_;rw[h.opn,g1.1]
 rw[ine (by rw[h.opn];exact g1),ine g1]
 by_cases g2:bgn c=true
 ·rw[ipo g2,ipo g2];have ho:b.opn=false:=by
   cases ho:b.opn with
   |false=>rfl
   |true=>exact absurd ⟨ho,U8 g2⟩ g1
  have hf:q.out=b.fin:=by
   rw[h.out];unfold Bs.out Bs.fin;rw[ho];rfl
  refine⟨?_,?_,rfl,rfl⟩
  ·show q.out++ [tkF (0+jfl q.jn q.out.length) []]=_;rw[hf,h.jn];unfold Bs.out;rw[ipo rfl,Int.zero_add]
  ·show q.word++ [c]=_;rw[h.word,(hb.cl ho).1];rfl
 rw[ine g2,ine g2]
 by_cases g3:kind c=6
 ·rw[ipo g3,ipo g3];refine⟨?_,n2,n3,rfl⟩;show q.nd.out=_;rw[n1];unfold Bs.out;rw[ine (by simp),lan]
 ·rw[ine g3,ine g3];refine⟨?_,n2,n3,rfl⟩;show U3 (q.nd.out++ [tkF (8+jfl q.nd.jn q.nd.out.length) []]) [c]=_;rw[qc5,n1,n4];unfold Bs.out;rw[ine (by simp),lan]
theorem qBK{q:Br}{b:Bs}{s:Str}(h:BrB q b)(hb:qoj s b)(hs:s.length<=900000):qBn q:=by
 have hl:=hb.len;have hc:=hb.cat;have ho:b.out.length=b.fin.length:=by unfold Bs.out Bs.fin;split<;>simp
 refine⟨λe=> ?_,λe=> ?_,?_,?_⟩
 ·rw[h.opn]at e;have e2:q.out=b.done++ [tkF b.fl []]:=by rw[h.out];unfold Bs.out;rw[ipo e]
  rw[e2];refine⟨by simp,?_⟩;have g:(b.done++ [tkF b.fl []]).getD ((b.done++ [tkF b.fl []]).length-1) default=tkF b.fl []:=by
   rw[show (b.done++ [tkF b.fl []]).length-1=b.done.length+0 by simp,qaN];rfl
  rw[g];exact (hb.op e).2.2
 ·rw[h.opn]at e;rw[h.word];exact (hb.cl e).1
 ·rw[h.out,ho];omega
 ·rw[h.word];cases e:b.opn with
  |false=>rw[(hb.cl e).1];simp
  |true=>
   have hm:b.word∈b.fin.map Tk.text:=by
    unfold Bs.fin;rw[ipo e,List.map_append];exact List.mem_append_right _ (List.mem_singleton.2 rfl)
   have h1:=qb8 hm;rw[hc]at h1
   have:=List.length_filter_le (λc=> !decide (kind c=6)) s
   omega
def brI(vo vw:Nat)(s:Str):Br:=s.foldl Br.pt ⟨[],[],false,false,vo,vw,false⟩
theorem qwn(vo vw:Nat)(s:Str): ∀n,n<=s.length->BrB (brI vo vw (s.take n)) (bsL (s.take n)):=by
 intro n
 induction n with
 |zero=>intro _;exact⟨rfl,rfl,rfl,rfl⟩
 |succ n ih=>
  intro hn;rw[List.take_add_one,zH hn];show BrB (brI vo vw (s.take n++ [s[n]])) (bsL (s.take n++ [s[n]]));rw[qdf];unfold brI;rw[List.foldl_append];exact qz4 (ih om) (qel _) _
theorem qoA(vo vw:Nat)(s:Str){n:Nat}(hn:n<s.length):brI vo vw (s.take (n+1))=(brI vo vw (s.take n)).pt (ch s n):=by
 unfold brI;rw[List.take_add_one,zH hn,List.foldl_append];simp[ch,gdqA,hn]
theorem qry(vo vw:Nat)(s:Str)(hs:s.length<=900000){n:Nat}(hn:n<=s.length):qBn (brI vo vw (s.take n)):=qBK (qwn vo vw s n hn) (qel _) (by rw[List.length_take];omega)
def nmL(L:List Tk)(i:Nat):List Tk:=(L.take i).map tkN++L.drop i
theorem qcb(L:List Tk)(i:Nat):(nmL L i).length=L.length:=by unfold nmL;simp;omega
theorem qzL{L:List Tk}{i:Nat}(hi:i<L.length):(nmL L i).getD i default=L.getD i default:=by
 unfold nmL;rw[gdqA,List.getElem?_append_right (by simp;omega),List.getElem?_drop,gdqA];simp[Nat.min_eq_left (Nat.le_of_lt hi)]
theorem qpW{L:List Tk}{i:Nat}(hi:i<L.length):nmL L (i+1)=(nmL L i).set i (tkN (L.getD i default)):=by
 unfold nmL;have e:((L.take i).map tkN).length=i:=by simp;omega
 rw[List.set_append_right _ _ om,e,Nat.sub_self,List.drop_eq_getElem_cons hi,List.set_cons_zero,List.take_add_one,zH hi,List.map_append,List.append_assoc,gdqA,zH hi];rfl
theorem qus(L:List Tk):nmL L L.length=L.map tkN:=by unfold nmL;rw[List.take_length,List.drop_length,lan]
theorem qpX(L:List Tk):nmL L 0=L:=by unfold nmL;simp
end RC
end
section
open Go Go.Proofs AF
def qt3:List Nat:= [277,278,377,347,287,344,288,345,290]
def qwT:C:=
 (vS [O1 3 (.box 0 117) 0,ON 6 (.nilo 1 6 119) [],vM 7 0] ((vS [MV 14 1,O1 15 (.call 283 true) 14,vN 16 .neq 15 0,MV 17 16,vQ 18 17 2,vO 19 17 (.call 284 true) 18,vR 20 17 (.bin
 .neq) 19 (i6 0),PT 21 17 20] (vT 21 (vV [ON 6 (.nilo 1 6 119) [],vM 7 1]))).seq ((vS [vL 22 1 3,LD 23 22,vN 24 .lss 23 0,MV 25 24,vZ 26 25 1 3,v6 27 25 26,vR 28 25 (.bin .gtr)
 27 (i6 4096),PT 29 25 28] (vT 29 (vV [ON 6 (.nilo 1 6 119) [],vM 7 2]))).seq ((vS [vL 30 0 3,LD 31 30,O1 32 (.call 260 true) 31,O1 33 (.un UnOp.not) 32] (vT 33 (vV [ON 6 (.nilo
 1 6 119) [],vM 7 14]))).seq (vS [MV 35 1,OC 36 (.call 285 true) 35 (i6 8),MV 34 36,O1 37 (.ext 0) 34,O1 38 (.ext 1) 34,MV 8 37,MV 9 38] (vS [MV 40 1,OC 41 (.call 285 true) 40
 (i6 9),MV 39 41,O1 42 (.ext 0) 39,O1 43 (.ext 1) 39,MV 10 42,MV 11 43] ((vS [MV 44 8,MV 45 10,BI 46 .add 44 45,vN 47 .gtr 46 0] (vT 47 (vV [ON 6 (.nilo 1 6 119) [],vM 7
 13]))).seq (vS [⟨some 12,none,.alloc 2 343 [.nl,.nilp,.nl,.bool false,.bool false,.bool false],[]⟩] (((C.wk.seq (vW [O1 48 (.load (some 2)) 3,MV 49 1,O2 50 (.call 286 true) 48
 49])).seq (C.block 0 (C.range (.t 50) [51] (vW [⟨some 13,none,.alloc 3 348 [i6 0,.int .u8 0,i6 0,.str [],i6 0,.bool false,.str []],[]⟩,ST 7 13 51]) (C.block 1 (vW [O1 52 (.load
 (some 7)) 13,O2 53 (.call 287 false) 12 52]))))).seq (vS [O1 54 (.call 288 false) 12] ((vS [vL 55 0 12,LD 56 55,O1 57 .len 56,vN 58 .gtr 57 1024,MV 59 58,vZ 60 59 0 12,v6 61 59
 60,vR 62 59 (.call 183 true) 61 (.fn (Fn.func 289) [] []),PT 63 59 62] (vT 63 (vV [ON 6 (.nilo 1 6 119) [],vM 7 4]))).seq (vV [MV 64 2,vL 65 0 12,LD 66 65,O2 67 (.call 290
 false) 64 66,O1 68 (.ext 0) 67,O1 69 (.ext 1) 67,MV 6 68,MV 7 69]))))))))))))
theorem qyt:qK Tryz.prog 224 70 6 [RV.tmp 6,RV.tmp 7] qwT:=fi Tryz.f224 [3,6,12,13,9,11] qt3 [12]
end
section
open Go Go.Proofs AF HY LN
namespace RC
theorem qrc{t:Tk}(h:TkG t)(hl:t.text.length<=64):(qlg t.flags=false∧mkB t.flags=false∧ ∀i,i<t.text.length->UX (ch t.text i)=true)∨(qlg t.flags=false∧mkB t.flags=true):=by
 rcases h.2 with⟨hf,c,r,e,hb,hr⟩|⟨hf,_⟩
 ·refine .inl ⟨by rcases hf with e|e<;>rw[e]<;>rfl,by rcases hf with e|e<;>rw[e]<;>rfl,λi hi=> ?_⟩;rw[e]at hi ⊢;cases i with
  |zero=>exact U8 hb
  |succ i=>
   simp only[lco]at hi
   have:ch (c::r) (i+1)=r[i]'(by omega):=by simp[ch,gdqA,show i<r.length by omega]
   rw[this];exact hr _ (List.getElem_mem _)
 ·exact .inr ⟨by rcases hf with e|e<;>rw[e]<;>rfl,by rcases hf with e|e<;>rw[e]<;>rfl⟩
theorem qrb{t:Tk}(h:TkG t): ∃f:Nat,t.flags=f∧f<32:=by
 rcases h.2 with⟨hf|hf,_⟩|⟨hf|hf,_⟩
 ·exact⟨0,hf,om⟩
 ·exact⟨16,hf,om⟩
 ·exact⟨8,hf,om⟩
 ·exact⟨24,hf,om⟩
theorem qCR(L:List Tk)(b v:Nat)(h:we)(hb:qq b h=some (zw v 119 (z8 L)))(hg: ∀t∈L,TkG t)(hl: ∀t∈L,t.text.length<=64)(hn:L.length<=1000000):
  ACalls Tryz.prog 290 [.nl,.osl b v 6 0 L.length] h (.tup [.osl b v 6 0 L.length,.int .i64 0]) (qn b h (zw v 119 (z8 (L.map tkN)))):=by
 have hbl:=zE hb;have hlv: ∀l,qE (h++l) b v=true:=λl=>by rw[ji,zx hbl,hb,qX];simp
 refine acO qyO ?_;simp (disch:=omega) only[qxb,hlv,go_sem];refine qt (T:=λi:Nat=>zg 49 [(0,.nl),(1,.osl b v 6 0 L.length),(10,.int .i64 L.length),(11,.int .i64 i)]) (H:=λi=>qn b h (zw v 119 (z8 (nmL L i)))++ [.emp 1]) (inv:=λi=>i<=L.length) (m:=λi=>L.length-i) 0 (nzl _) ?_ ?_
 ·rw[qpX,jz hb];refine Wk.temps ?_
  (simp only[go_sem,qh,qf,qb,qg];try exact wa)
 rintro i i1 K hK;have hML:=qcb L i
 by_cases hi:i<L.length
 ·have k1:((i:Int)<L.length)=True:=wh;have hne:z8 (nmL L i)≠ []:=λe=>by
   have:=congrArg List.length e
   rw[jA,hML,lnl]at this;omega
  have ho:zw v 119 (z8 (nmL L i))= .mem v 119 (z8 (nmL L i)):=by unfold zw;rw[ine hne]
  rw[ho];have hM:=jA (nmL L i);rw[hML]at hM;obtain⟨t,ht⟩:=wc (L.getD i default)
  have hmem:t∈L:=by rw[ht];exact jk hi
  have gt:=hg t hmem;have lt:=hl t hmem;have hat:=qzL hi;rw[<-ht]at hat;have hsucc:=qpW hi;rw[<-ht]at hsucc;obtain⟨M,hMe⟩:=wc (nmL L i)
  rw[<-hMe]at hM hat hsucc hML ⊢;have s1: ∀ {l w cs z},cellsOf (qn b h (.mem w 119 cs)++l) b z=if w=z then some cs else none:=kU hbl
  have s2: ∀ {l o o'},qn b (qn b h o++l) o'=qn b h o'++l:=qdO hbl;have s4: ∀ {l o},qq b (qn b h o++l)=some o:=qbE hbl;have s3: ∀ {l o w},qE (qn b h o++l) b w=qG (some o) w:=λ{l o w}=>by rw[ji,s4]
  have g0:(z8 M)[i*6]? =some (.str t.text):=by
   have:=qdY (L:=M) (i:=i) (k:=0) om om
   rw[Nat.add_zero]at this;rw[this,hat];rfl
  have b1:(i*6<L.length*6)=True:=wh;have b2:(i*6+1+1<=L.length*6)=True:=wh;have b3:(i*6+6<=L.length*6)=True:=wh;have hset:=qha (L:=M) (i:=i) (tkN t) om;rw[<-hsucc]at hset;have hcut:=qaw (L:=M) (i:=i) om;rw[hat]at hcut;have hS:List.take (i*6+1) (z8 M)++ [AV.str t.text]++List.drop (i*6+1+1) (z8 M)=z8 (nmL L (i+1)):=by
   rw[<-hset];have e1:List.take (i*6+1) (z8 M)=List.take (i*6) (z8 M)++ [.str t.text]:=by
    rw[List.take_add_one,g0];rfl
   have e2:List.drop (i*6+1+1) (z8 M)=(tkC t).drop 2++(z8 M).drop (i*6+6):=by
    rw[<-hcut,List.drop_take,List.drop_drop]
    have:List.drop (i*6+6) (z8 M)=List.drop 4 (List.drop (i*6+2) (z8 M)):=by rw[List.drop_drop]
    rw[this,show i*6+1+1=i*6+2 by omega];exact (List.take_append_drop 4 _).symm
   rw[e1,e2];simp[tkC,tkN]
  have hL2:=jA (nmL L (i+1));rw[qcb]at hL2;have hat2:(nmL L (i+1)).getD i default=tkN t:=by rw[hsucc];exact qdp om
  have hcut2:=qaw (L:=nmL L (i+1)) (i:=i) (by rw[qcb];exact hi);rw[hat2]at hcut2;have h0':(z8 (nmL L (i+1)))[i*6]? =some (.str t.text):=by
   have:=qdY (L:=nmL L (i+1)) (i:=i) (k:=0) (by rw[qcb];exact hi) om
   rw[hat2]at this;exact this
  have hS2:List.take (i*6+1) (z8 (nmL L (i+1)))++ [AV.str t.text]++List.drop (i*6+1+1) (z8 (nmL L (i+1)))=z8 (nmL L (i+1)):=by
   refine qe6 ?_;rw[qdY (by rw[qcb];exact hi) om,hat2];rfl
  obtain⟨f,hf,hf2⟩:=qrb gt;have c1:=λh=>qDQ (tkN t) f h hf hf2
  have ho2:zw v 119 (z8 (nmL L (i+1)))= .mem v 119 (z8 (nmL L (i+1))):=by
   unfold zw;rw[ine λe=> ?_]
   have:=congrArg List.length e
   rw[hL2,lnl]at this;omega
  rcases qrc gt lt with⟨q1,q2,q3⟩|⟨q1,q2⟩
  ·have hiw:(!qlg (tkN t).flags&& !mkB (tkN t).flags)=true:=by rw[show (tkN t).flags=t.flags from rfl,q1,q2];rfl
   rw[hiw]at c1;have c2:=λh=>qCQ t.text h lt q3
   simp (disch:=omega) only[k1,s1,s2,s4,hM,g0,b1,b2,b3,hS,hL2,hcut2,go_sem]
   repeat' first|((first|refine cA (c1 _) ?_ ?_|refine cA (c2 _) ?_ ?_);exact flk;simp (disch:=omega) only[k1,s1,s2,s4,b1,b2,hL2,h0',hS2,go_sem])|with_reducible apply aiA|exact clz|fail
   refine hK _ _ (i+1) hi om ?_;rw[ho2];refine Wk.temps ?_
   (simp only[go_sem,qh,qf,qb,qg];try exact wa)
  ·have hiw:(!qlg (tkN t).flags&& !mkB (tkN t).flags)=false:=by rw[show (tkN t).flags=t.flags from rfl,q1,q2];rfl
   rw[hiw]at c1;simp (disch:=omega) only[k1,s1,s2,s4,hM,g0,b1,b2,b3,hS,hL2,hcut2,go_sem]
   repeat' first|(refine cA (c1 _) flk ?_;simp (disch:=omega) only[k1,s1,b1,hL2,go_sem])|with_reducible apply aiA|exact clz|fail
   refine hK _ _ (i+1) hi om ?_;rw[ho2];refine Wk.temps ?_
   (simp only[go_sem,qh,qf,qb,qg];try exact wa)
 have k1:((i:Int)<L.length)=False:=wi;obtain rfl:i=L.length:=by omega
 simp (disch:=omega) only[k1,go_sem];rw[qus];refine kZ ⟨trivial,trivial,trivial⟩ qL (λo ho=>(jc ho).imp id (λe=>by rw[e];exact jl (j6 _ _))) ⟨rfl,rfl⟩ ?_;simp only[go_sem];rw[ine om];exact qi
end RC
end
section
open Go Go.Proofs AF HY LN
namespace AF
theorem qvr{h:we}{a b c:Nat}{X Y Z o:AObj}(ho:o∈tri h a b c X Y Z):o∈h∨o=X∨o=Y∨o=Z:=by
 unfold tri at ho;rcases jc ho with h1|rfl
 ·rcases jc h1 with h1|rfl
  ·rcases jc h1 with h1|rfl
   ·exact .inl h1
   ·exact .inr (.inl rfl)
  ·exact .inr (.inr (.inl rfl))
 ·exact .inr (.inr (.inr rfl))
theorem qAE{h l:we}{a b c k:Nat}{X Y Z:AObj}(hk:k<h.length)(ha:k≠a)(hb:k≠b)(hc:k≠c):qq k (tri h a b c X Y Z++l)=qq k h:=by
 rw[zx (by rw[tri_len];exact hk)];unfold tri;rw[qR hc,qR hb,qR ha]
theorem qAF{h l:we}{a b c k:Nat}{X Y Z o:AObj}(hk:k<h.length)(ha:k≠a)(hb:k≠b)(hc:k≠c):qn k (tri h a b c X Y Z++l) o=tri (qn k h o) a b c X Y Z++l:=by
 rw[zy (by rw[tri_len];exact hk)];unfold tri;rw[kq hc,kq hb,kq ha]
theorem qsl{h:we}{a b c:Nat}{X Y Z:AObj}(ha:qq a h=some X)(hb:qq b h=some Y)(hc:qq c h=some Z):tri h a b c X Y Z=h:=by
 unfold tri;rw[jz ha,jz hb,jz hc]
end AF
namespace RC
theorem qdQ{v n:Nat}{L:List Tk}{ty:TypeId}{fz:Nat->Bool}{h:we}{d:Nat}(hn:n=L.length):VLe (qg0 (some (zw v ty (z8 L))) v 6 0 n (rei fz h (d+1))) (ja L):=by
 subst hn;unfold zw;split
 ·rename_i e
  have:L= []:=by
   cases L with
   |nil=>rfl
   |cons a r=>exact absurd e (by simp[z8,tkC])
  subst this;rw[slOf_emp,ipo rfl];exact zB
 ·rw[slOf_mem,ipo ⟨rfl,by rw[jA];omega⟩];refine VLe.sl_eq rfl (λi hi=> ?_);simp only[Nat.zero_add];rw[qaw hi];rfl
theorem qFb(t:Tk)(h:we):ACalls Tryz.prog 289 [.agg (tkC t)] h (.bool (decide (64<t.text.length))) h:=by
 by_cases g:64<t.text.length
 ·have k1:((64:Int)<t.text.length)=True:=wh;rw[dqt g];refine acO qrR ?_;simp (disch:=omega) only[qsX,tkC,k1,go_sem]
  repeat' first|exact v7|fail
 ·have k1:((64:Int)<t.text.length)=False:=wi;rw[dqf g];refine acO qrR ?_;simp (disch:=omega) only[qsX,tkC,k1,go_sem]
  repeat' first|exact v7|fail
theorem qEH(L:List Tk)(h:we)(hl:L.length<=1000000000):ACalls Tryz.prog 183 [ja L,.fn (.func 289) [] []] h (.bool (qug L)) h:=
 qvY qrH ⟨rfl,rfl⟩ ⟨rfl,rfl⟩ (qex qrO L.length (λj=>tkC (L.getD j default)) (λj=> .agg (tkC (L.getD j default))) 289 [] [] (λj=>decide (64<(L.getD j default).text.length)) h (λi _=>⟨rfl,by simp[jZ,tkC],rfl,rfl,rfl⟩) (λi _=>qFb _ _) om)
end RC
end
section
open Go Go.Proofs AF HY LN
namespace RC
def qhc(s:Str):List Tk:=if qhb s=0 then qed s else []
theorem qC5(s:Str)(h:we)(hl:s.length<=1000)(hs:s≠ [])(hc:zG s=0)(hg:z6 h frmN frmC):ACalls Tryz.prog 224 [.agg [.str [],.int .i64 0],jT s,.nl] h (.tup [ja (qhc s),.int .i64 (qhb s)]) h:=by
 have c1:=λl=>qBX s (h++l) om om hs hc hg.app
 have c2:=λh=>qDW h
 have c3:=λh=>qCO [] h (by simp)
 rw[show qum []=true from rfl]at c3;have c4:=λl=>qDI s 8 (h++l) om om (λl'=>qBX s (h++l++l') om om hs hc hg.app.app)
 have c9:=λl=>qDI s 9 (h++l) om om (λl'=>qBX s (h++l++l') om om hs hc hg.app.app)
 have c5:=λh=>qEd s h
 unfold jT at c1 c4 c5 c9;refine acO qyt ?_;simp (disch:=omega) only[qwT,jT,go_sem]
 repeat' first|((first|refine cA (c1 _) ?_ ?_|refine cG (λe=>c2 _) ?_ ?_|refine cA (c3 _) ?_ ?_|refine cA (c4 _) ?_ ?_|refine cA (c9 _) ?_ ?_);exact flk;simp (disch:=omega) only[go_sem])|(apply qa;exact rvk;simp only[go_sem])|(with_reducible first|intro _|apply aiA)|exact clz|fail
 refine⟨_,_,(Wk.ownNil (j:=h.length+2) (i:=0) (k:=h.length+4) (v:=1) (ty:=343) (cs:= [.nl,.nilp,.nl,.bool false,.bool false,.bool false]) (ve:=0) (sz:=6) ?m1 rfl ?m2).trans
  (Wk.ownNil (j:=h.length+2) (i:=2) (k:=h.length+5) (v:=1) (ty:=343) (cs:= [.osl (h.length+4) 0 6 0 0,.nilp,.nl,.bool false,.bool false,.bool false]) (ve:=0) (sz:=1) ?m3 rfl ?m4),?_⟩
 case m1=>simp only[go_sem]
 case m2=>simp only[go_sem]
 case m3=>
  simp only[List.set_cons_zero,go_sem]
 case m4=>simp only[List.set_cons_zero,go_sem]
 simp (disch:=omega) only[List.set_cons_zero,List.set_cons_succ,go_sem]
 repeat' first|(refine cA (c5 _) flk ?_;simp (disch:=omega) only[go_sem])
 obtain⟨base,hbase⟩: ∃base:AObj->we,base=λO=>h++ [.mem 1 117 [.str [],.int .i64 0],.emp 1,.mem 1 343 [.osl (h.length+4) 0 6 0 0,.nilp,.osl (h.length+5) 0 1 0 0,.bool false,.bool false,.bool false],O,.emp 0,.emp 0]:=⟨_,rfl⟩
 have hbl: ∀O,(base O).length=h.length+6:=λO=>by rw[hbase];simp
 have hT: ∀O,T3 (base O) (h.length+2) (h.length+4) (h.length+5):=λO=>⟨by rw[hbl];omega,by rw[hbl];omega,by rw[hbl];omega,om,om,om⟩
 have f1: ∀ {O X Y Z l},qq (h.length+3) (tri (base O) (h.length+2) (h.length+4) (h.length+5) X Y Z++l)=some O:=λ{O X Y Z l}=>by
  rw[qAE (by rw[hbl];omega) om om om,hbase];simp only[go_sem]
 have f2: ∀ {O O' X Y Z l},qn (h.length+3) (tri (base O) (h.length+2) (h.length+4) (h.length+5) X Y Z++l) O'=tri (base O') (h.length+2) (h.length+4) (h.length+5) X Y Z++l:=λ{O O' X Y Z l}=>by
  rw[qAF (by rw[hbl];omega) om om om,hbase];simp only[go_sem]
 have f4: ∀ {v w ty cs X Y Z l},cellsOf (tri (base (.mem v ty cs)) (h.length+2) (h.length+4) (h.length+5) X Y Z++l) (h.length+3) w=if v=w then some cs else none:=λ{v w ty cs X Y Z l}=>by rw[zM,f1];rfl
 have eT: ∀ {O X Y Z},tri (base O) (h.length+2) (h.length+4) (h.length+5) X Y Z=h++ [.mem 1 117 [.str [],.int .i64 0],.emp 1,X,O,Y,Z]:=λ{O X Y Z}=>by
  rw[hbase];unfold tri;simp only[go_sem]
 have hst:base (.emp 0)=brO (base (.emp 0)) (h.length+2) (h.length+4) (h.length+5) 1 (brI 0 0 (s.take 0)):=by
  refine (qsl ?_ ?_ ?_).symm
  ·rw[hbase];simp only[go_sem];rfl
  ·rw[hbase];simp only[go_sem];rfl
  ·rw[hbase];simp only[go_sem];rfl
 have hLow: ∀(q:Br) O,(∀n,lowO n O)->LowI (base (.emp 0)) (brO (base O) (h.length+2) (h.length+4) (h.length+5) 1 q):=λq O lO=>by
  refine⟨by rw[qde,hbl,hbl],λo ho=> ?_⟩;rcases qvr ho with h1|rfl|rfl|rfl
  ·rw[hbase]at h1 ⊢;rcases List.mem_append.1 h1 with h1|h1
   ·exact .inl (List.mem_append_left _ h1)
   ·simp only[List.mem_cons,List.not_mem_nil,or_false]at h1;rcases h1 with rfl|rfl|rfl|rfl|rfl|rfl
    ·left;simp
    ·left;simp
    ·left;simp
    ·right;exact⟨lO _,lO _⟩
    ·left;simp
    ·left;simp
  ·right
   have:=jE (hT O) 1 q
   rw[hbl]at this ⊢;exact⟨this,lowO_mono om this⟩
  ·right;exact⟨kT _ _,kT _ _⟩
  ·right;exact⟨zX _ _ _,zX _ _ _⟩
 have e0:h++ [.mem 1 117 [.str [],.int .i64 0],.emp 1,.mem 1 343 [.osl (h.length+4) 0 6 0 0,.nilp,.osl (h.length+5) 0 1 0 0,.bool false,.bool false,.bool false],.emp 0,.emp 0,.emp 0]=base (.emp 0):=by rw[hbase]
 rw[e0];refine qY (xs:=atX s) (itA s om) (λa ha=> ?_)
  (S:=λi hh=> ∃O,qH [O] 0=true∧(∀n,lowO n O)∧hh=brO (base O) (h.length+2) (h.length+4) (h.length+5) 1 (brI 0 0 (s.take i))) (E:=λ_ _=>False) ?_ ?_ ?_ ?_ ?_ ?_ ?_
 ·obtain⟨c,_,rfl⟩:=List.mem_map.1 (show a∈s.map _ from ha);rfl
 ·rintro i hh ⟨O,_,l1,rfl⟩;exact hLow _ _ l1
 ·intro s hh hf;exact hf.elim
 ·exact⟨.emp 0,rfl,λ_=>trivial,hst⟩
 ·rw[hbl];simp[qS,qS.lowVs]
  try omega
 ·rintro i hh tl LI TS hi ⟨O,s1,l1,rfl⟩ hlen K K2 hK hN hR' hX;have hi':i<s.length:=by rw[qbT]at hi;exact hi
  rw[qrx hi];have t:=hT O;have f3: ∀ {X Y Z l},qH (tri (base O) (h.length+2) (h.length+4) (h.length+5) X Y Z++l) (h.length+3)=true:=λ{X Y Z l}=>by unfold qH;rw[f1];exact s1
  simp only[jV];unfold brO;simp (disch:=omega) only[f1,f2,f3,f4,atC,go_sem];refine hK _ _ (brO (base (.mem (qo (some O)+1) 348 (atC 1 (ch s i)))) (h.length+2) (h.length+4) (h.length+5) 1 (brI 0 0 (s.take i))) ?_ ?_ ?_
  ·rfl
  ·rw[qde,hbl,hbl]
  ·have cA:=qkh (va:=1) (λh' t'=>qBI (va:=1) t' (brI 0 0 (s.take i)) (ch s i) (qry 0 0 s om om)) (hT (.mem (qo (some O)+1) 348 (atC 1 (ch s i)))) (.lp .busy TS LI::tl);unfold brO atC at cA;unfold brO;simp (disch:=omega) only[f4,atC,go_sem];refine qy cA (by exact flk) ?_;simp (disch:=omega) only[go_sem];refine hN _ _ (brO (base (.mem (qo (some O)+1) 348 (atC 1 (ch s i)))) (h.length+2) (h.length+4) (h.length+5) 1 ((brI 0 0 (s.take i)).pt (ch s i))) rfl (by rw[qde,hbl,hbl]) ⟨_,?_,?_,by rw[qoA 0 0 s hi']⟩
   ·rfl
   ·intro n d hd;simp[atC]at hd;rcases hd with rfl|rfl|rfl|rfl|rfl|rfl|rfl<;>rfl
 ·rintro hh ⟨O,s1,l1,rfl⟩;have t:=hT O;rw[qbT,List.take_length];have hqo:=qry 0 0 s om (nlr s.length);have hqb:=qwn 0 0 s s.length (nlr _);rw[List.take_length]at hqo hqb;obtain⟨q,hq⟩:=wc (brI 0 0 s)
  rw[<-hq]at hqo hqb ⊢;obtain⟨n1,n2,n3,n4⟩:=qr8 hqb (qel s);have n1:q.nd.out=qax s:=n1;have cE:=qsG (va:=1) t q (λe=>(hqo.op e).1) hqo.cl (by have:=hqo.n;omega) (by have:=hqo.w;omega);simp (disch:=omega) only[go_sem];refine qy cE (by exact flk) ?_;obtain⟨r,hr⟩:=wc q.nd
  rw[<-hr]at n1 ⊢;have zga: ∀ {X Y Z l},qq (h.length+2) (tri (base O) (h.length+2) (h.length+4) (h.length+5) X Y Z++l)=some X:=dB (t);have yga: ∀ {X Y Z},qq (h.length+2) (tri (base O) (h.length+2) (h.length+4) (h.length+5) X Y Z)=some X:=λ{X Y Z}=>by have:=zga (X:=X) (Y:=Y) (Z:=Z) (l:= []);simpa only[lan] using this
  have zgb: ∀ {X Y Z l},qq (h.length+4) (tri (base O) (h.length+2) (h.length+4) (h.length+5) X Y Z++l)=some Y:=UE (t);have ygb: ∀ {X Y Z},qq (h.length+4) (tri (base O) (h.length+2) (h.length+4) (h.length+5) X Y Z)=some Y:=λ{X Y Z}=>by have:=zgb (X:=X) (Y:=Y) (Z:=Z) (l:= []);simpa only[lan] using this
  have zgc: ∀ {X Y Z l},qq (h.length+5) (tri (base O) (h.length+2) (h.length+4) (h.length+5) X Y Z++l)=some Z:=ey (t);have ygc: ∀ {X Y Z},qq (h.length+5) (tri (base O) (h.length+2) (h.length+4) (h.length+5) X Y Z)=some Z:=λ{X Y Z}=>by have:=zgc (X:=X) (Y:=Y) (Z:=Z) (l:= []);simpa only[lan] using this
  have zsa: ∀ {X Y Z o l},qn (h.length+2) (tri (base O) (h.length+2) (h.length+4) (h.length+5) X Y Z++l) o=tri (base O) (h.length+2) (h.length+4) (h.length+5) o Y Z++l:=UF (t);have ysa: ∀ {X Y Z o},qn (h.length+2) (tri (base O) (h.length+2) (h.length+4) (h.length+5) X Y Z) o=tri (base O) (h.length+2) (h.length+4) (h.length+5) o Y Z:=λ{X Y Z o}=>by have:=zsa (X:=X) (Y:=Y) (Z:=Z) (o:=o) (l:= []);simpa only[lan] using this
  have zsb: ∀ {X Y Z o l},qn (h.length+4) (tri (base O) (h.length+2) (h.length+4) (h.length+5) X Y Z++l) o=tri (base O) (h.length+2) (h.length+4) (h.length+5) X o Z++l:=UQ (t);have ysb: ∀ {X Y Z o},qn (h.length+4) (tri (base O) (h.length+2) (h.length+4) (h.length+5) X Y Z) o=tri (base O) (h.length+2) (h.length+4) (h.length+5) X o Z:=λ{X Y Z o}=>by have:=zsb (X:=X) (Y:=Y) (Z:=Z) (o:=o) (l:= []);simpa only[lan] using this
  have zsc: ∀ {X Y Z o l},qn (h.length+5) (tri (base O) (h.length+2) (h.length+4) (h.length+5) X Y Z++l) o=tri (base O) (h.length+2) (h.length+4) (h.length+5) X Y o++l:=UR (t);have ysc: ∀ {X Y Z o},qn (h.length+5) (tri (base O) (h.length+2) (h.length+4) (h.length+5) X Y Z) o=tri (base O) (h.length+2) (h.length+4) (h.length+5) X Y o:=λ{X Y Z o}=>by have:=zsc (X:=X) (Y:=Y) (Z:=Z) (o:=o) (l:= []);simpa only[lan] using this
  have zca: ∀ {X Y Z v l},cellsOf (tri (base O) (h.length+2) (h.length+4) (h.length+5) X Y Z++l) (h.length+2) v=qr (some X) v:=qay (t);have yca: ∀ {X Y Z v},cellsOf (tri (base O) (h.length+2) (h.length+4) (h.length+5) X Y Z) (h.length+2) v=qr (some X) v:=λ{X Y Z v}=>by have:=zca (X:=X) (Y:=Y) (Z:=Z) (v:=v) (l:= []);simpa only[lan] using this
  have zcb: ∀ {X Y Z v l},cellsOf (tri (base O) (h.length+2) (h.length+4) (h.length+5) X Y Z++l) (h.length+4) v=qr (some Y) v:=qaz (t);have ycb: ∀ {X Y Z v},cellsOf (tri (base O) (h.length+2) (h.length+4) (h.length+5) X Y Z) (h.length+4) v=qr (some Y) v:=λ{X Y Z v}=>by have:=zcb (X:=X) (Y:=Y) (Z:=Z) (v:=v) (l:= []);simpa only[lan] using this
  have zcc: ∀ {X Y Z v l},cellsOf (tri (base O) (h.length+2) (h.length+4) (h.length+5) X Y Z++l) (h.length+5) v=qr (some Z) v:=qaA (t);have ycc: ∀ {X Y Z v},cellsOf (tri (base O) (h.length+2) (h.length+4) (h.length+5) X Y Z) (h.length+5) v=qr (some Z) v:=λ{X Y Z v}=>by have:=zcc (X:=X) (Y:=Y) (Z:=Z) (v:=v) (l:= []);simpa only[lan] using this
  have zla: ∀ {X Y Z v l},qE (tri (base O) (h.length+2) (h.length+4) (h.length+5) X Y Z++l) (h.length+2) v=qG (some X) v:=qaB (t);have yla: ∀ {X Y Z v},qE (tri (base O) (h.length+2) (h.length+4) (h.length+5) X Y Z) (h.length+2) v=qG (some X) v:=λ{X Y Z v}=>by have:=zla (X:=X) (Y:=Y) (Z:=Z) (v:=v) (l:= []);simpa only[lan] using this
  have zlb: ∀ {X Y Z v l},qE (tri (base O) (h.length+2) (h.length+4) (h.length+5) X Y Z++l) (h.length+4) v=qG (some Y) v:=qaC (t);have ylb: ∀ {X Y Z v},qE (tri (base O) (h.length+2) (h.length+4) (h.length+5) X Y Z) (h.length+4) v=qG (some Y) v:=λ{X Y Z v}=>by have:=zlb (X:=X) (Y:=Y) (Z:=Z) (v:=v) (l:= []);simpa only[lan] using this
  have zlc: ∀ {X Y Z v l},qE (tri (base O) (h.length+2) (h.length+4) (h.length+5) X Y Z++l) (h.length+5) v=qG (some Z) v:=qaD (t);have ylc: ∀ {X Y Z v},qE (tri (base O) (h.length+2) (h.length+4) (h.length+5) X Y Z) (h.length+5) v=qG (some Z) v:=λ{X Y Z v}=>by have:=zlc (X:=X) (Y:=Y) (Z:=Z) (v:=v) (l:= []);simpa only[lan] using this
  have hrl:=qe8 s;have hor:r.out.length=(qax s).length:=by rw[n1]
  have k1:((1024:Int)<r.out.length)=False:=wi;have hcE:=λh=>qEH (qax s) h om
  unfold brO brX brY;rw[n1];rw[n1]at k1;have hL:=jA (qax s);have hb64:=qcR (L:=qax s);have hTE:qhb s=if qug (qax s)=true then 4 else 0:=rfl
  have hTL:qhc s=if qhb s=0 then qed s else []:=rfl
  cases hB:qug (qax s)with
  |true=>
   rw[hB]at hTE hcE;rw[ipo rfl]at hTE;rw[hTE,ine (by decide)]at hTL;rw[hTE,hTL];simp (disch:=omega) only[yca,ylb,qk,qX,k1,go_sem];refine cG (λ_=>ACalls.borrow (r:= .bool true) ((hcE []).le ?g1 (qi)) rfl) (λ_=>by exact flk) ?_
   case g1=>
    simp only[List.map_cons,List.map_nil,go_sem,if_true];rw[ygb];exact⟨qdQ rfl,qi,trivial⟩
   simp (disch:=omega) only[yca,qk,go_sem]
   repeat' first|with_reducible apply aiA
   ·rw[eT];simp only[go_sem]
   ·rw[eT];simp only[go_sem];refine qdn rfl ⟨trivial,trivial,trivial⟩ ⟨rfl,rfl⟩ ?_;simp only[go_sem];exact VLe.tup ⟨zB,qi,trivial⟩
  |false=>
   rw[hB]at hTE hcE;rw[ine (by simp)]at hTE;rw[hTE,ipo rfl]at hTL;rw[hTE,hTL];simp (disch:=omega) only[yca,ylb,qk,qX,k1,go_sem];refine cG (λ_=>ACalls.borrow (r:= .bool false) ((hcE []).le ?g2 (qi)) rfl) (λ_=>by exact flk) ?_
   case g2=>
    simp only[List.map_cons,List.map_nil,go_sem,if_true];rw[ygb];exact⟨qdQ rfl,qi,trivial⟩
   simp (disch:=omega) only[yca,qk,go_sem];refine qy (qCR (qax s) (h.length+4) r.vo _ ygb (qhd s) (hb64.1 hB) om) (by exact flk) ?_;simp (disch:=omega) only[ysb,go_sem]
   repeat' first|with_reducible apply aiA|exact clz|fail
   rw[eT];refine qdn rfl ⟨trivial,trivial,trivial⟩ ⟨rfl,rfl⟩ ?_;simp only[go_sem];exact VLe.tup ⟨qdQ (by simp[qed]),qi,trivial⟩
 ·intro e hh hf;exact hf.elim
end RC
end
section
open Go Go.Proofs AF
def qgA:List Nat:= [224]
def qoG:C:=
 (vS [ON 2 (.nilo 0 1 9) [],vM 3 0] ((vS [MV 7 0,O1 8 (.call 219 true) 7,MV 4 8] (vS [MV 9 4,vN 10 .neq 9 0] (vT 10 (vV [MV 11 4,ON 2 (.nilo 0 1 9) [],MV 3 11])))).seq ((vS [MV
 12 0,BC 13 .eql 12 (.str [])] (vT 13 (vV [ON 2 (.nilo 0 1 9) [],vM 3 0]))).seq (vS [⟨some 15,none,.build [.str [],i6 0] [],[]⟩,MV 16 0,⟨some 17,none,.build [i6 0,.str [],i6
 0,.nl] [(0,1),(1,1)],[.c (i6 1),.t 16]⟩,⟨some 18,none,.bslc 1 4 1 234 [i6 0,.str [],i6 0,.nl] [(0,4)],[.t 17]⟩,ON 19 (.call 224 false) [.t 15,.t 18,.c .nl],MV 14 19,O1 20 (.ext
 0) 14,O1 21 (.ext 1) 14,MV 5 20,MV 6 21] (vV [MV 22 5,O1 23 (.call 64 true) 22,MV 24 6,MV 2 23,MV 3 24])))))
theorem qk6:qK Tryz.prog 165 25 2 [RV.tmp 2,RV.tmp 3] qoG:=fi Tryz.f165 [2,18] qgA []
def qwD:C:=
 (vS [ON 2 (.nilo 0 6 119) []] (vS [⟨some 6,none,.build [.str [],i6 0] [],[]⟩,MV 7 0,⟨some 8,none,.build [i6 0,.str [],i6 0,.nl] [(0,1),(1,1)],[.c (i6 1),.t 7]⟩,⟨some
 9,none,.bslc 1 4 1 234 [i6 0,.str [],i6 0,.nl] [(0,4)],[.t 8]⟩,ON 10 (.call 224 false) [.t 6,.t 9,.c .nl],MV 5 10,O1 11 (.ext 0) 5,O1 12 (.ext 1) 5,MV 3 11,MV 4 12] (vV [MV 13
 3,MV 2 13])))
theorem qyc:qK Tryz.prog 150 14 2 [RV.tmp 2] qwD:=fi Tryz.f150 [2,9] qgA []
end
section
open Go Go.Proofs AF
def jS:List Nat:= []
def qcF:C:=
 (vS [O1 3 (.box 0 26) 0,O1 5 (.box 1 65) 2,vM 6 0,vM 7 0] ((C.block 0 (vS [vL 15 0 5,LD 16 15,vN 17 .lss 16 1,MV 18 17,vZ 19 18 0 5,v6 20 18 19,vR 21 18 (.bin .gtr) 20 (i6 3),PT
 22 18 21,MV 14 22] (C.cond (.t 14) (vV [vM 6 0,vM 7 8]) (vS [vL 24 3 5,LD 25 24,BC 26 .neq 25 (.str []),MV 27 26,P1 28 27 true (.fldA 0) 5,P1 29 27 true (.load none) 28,PC 30
 27 true (.bin .neq) 29 (i6 2),PF 31 27 30,MV 23 31] (vT 23 (vV [vM 6 0,vM 7 1])))))).seq (vS [vL 32 1 3,LD 33 32,vL 34 1 5,LD 35 34,O2 36 (.call 125 true) 33 35,MV 8 36] ((vS
 [MV 37 8,vN 38 .lss 37 0] (vT 38 (vV [vM 6 0,vM 7 6]))).seq (vS [O1 40 (.load (some 4)) 3,MV 41 8,vL 42 2 5,LD 43 42,ON 44 (.call 164 true) [.t 40,.t 41,.t 43],MV 39 44,O1 45
 (.ext 0) 39,O1 46 (.ext 1) 39,MV 9 45,MV 10 46] ((vS [MV 47 10,vN 48 .neq 47 0] (vT 48 (vV [vM 6 0,vM 7 6]))).seq (vS [MV 50 1,MV 51 9,O2 52 (.call 76 true) 50 51,MV 49 52,O1
 53 (.ext 0) 49,O1 54 (.ext 1) 49,MV 11 53,MV 10 54] ((vS [MV 55 10,vN 56 .neq 55 0,MV 57 56,vQ 58 57 11,vR 59 57 (.bin .lss) 58 (i6 0),PT 60 57 59] (vT 60 (vV [vM 6 0,vM 7
 20]))).seq ((vS [vL 61 0 5,LD 62 61,vN 63 .eql 62 2] (vT 63 (vS [vL 65 3 5,LD 66 65,O1 67 (.call 165 true) 66,MV 64 67,O1 68 (.ext 0) 64,O1 69 (.ext 1) 64,MV 12 68,MV 13 69]
 ((vS [MV 70 13,vN 71 .neq 70 0] (vT 71 (vV [MV 72 13,vM 6 0,MV 7 72]))).seq (vS [MV 73 12,O1 74 .len 73,vN 75 .eql 74 0] (vT 75 (vV [vM 6 0,vM 7 5]))))))).seq (vV [MV 76 11,MV
 6 76,vM 7 0]))))))))))
theorem kY:qK Tryz.prog 95 77 2 [RV.tmp 6,RV.tmp 7] qcF:=fi Tryz.f95 [3,5] jS []
def qBO:C:=
 (vS [O1 3 (.box 0 26) 0,ON 6 (.nilo 1 1 3) [],vM 7 0] ((vS [MV 13 2,O1 14 .len 13,vN 15 .gtr 14 256] (vT 15 (vV [ON 6 (.nilo 1 1 3) [],vM 7 4]))).seq (vS [ON 8 (.nilo 2 1 3) []]
 ((vS [MV 16 2,O1 17 .len 16,vM 18 0] (C.block 0 (vS [BI 19 .lss 18 17] ((vU 19 0).seq ((C.block 1 (vS [O2 20 (.idxA 4) 16 18,O1 21 (.load (some 4)) 20,⟨some 10,none,.alloc 3 65
 [i6 0,.str [],i6 0,.str []],[]⟩,ST 4 10 21] (vS [O1 23 (.load (some 4)) 3,MV 24 1,O1 25 (.load (some 4)) 10,ON 26 (.call 95 true) [.t 23,.t 24,.t 25],MV 22 26,O1 27 (.ext 0)
 22,O1 28 (.ext 1) 22,MV 11 27,MV 12 28] ((vS [MV 29 12,vN 30 .neq 29 0] (vT 30 (vV [MV 31 12,ON 6 (.nilo 1 1 3) [],MV 7 31]))).seq (vW [MV 32 8,MV 33 11,⟨some 34,none,.bslc 4 1
 1 3 [i6 0] [(0,1)],[.t 33]⟩,O2 35 (.app 5 1 3 8) 32 34,MV 8 35]))))).seq (vW [vN 36 .add 18 1,MV 18 36])))).loop)).seq (vV [MV 37 8,MV 6 37,vM 7 0])))))
theorem qzd:qK Tryz.prog 67 38 6 [RV.tmp 6,RV.tmp 7] qBO:=fi Tryz.f67 [3,6,8,10,34,35] jS []
def qxx:C:=
 (vS [MC 4 (.bool false)] ((vS [MV 5 0,O1 6 (.call 145 true) 5] (vT 6 (vV [MV 7 1,O1 8 (.call 145 true) 7,O1 9 (.un UnOp.not) 8,MV 10 9,MG 11 10 true 1,PC 12 10 true (.bin .neq)
 11 (.str [39]),PF 13 10 12,MV 4 13]))).seq (vV [MC 4 (.bool true)])))
theorem qpw:qK Tryz.prog 70 14 0 [RV.tmp 4] qxx:=fi Tryz.f70 [] jS []
def qDF:C:=
 (vS [O1 4 (.box 0 26) 0,O1 5 (.box 1 3) 1,O1 6 (.box 2 3) 2,O1 7 (.box 3 3) 3,MC 8 .nilfn] (vV [ON 9 (.mkfn (Fn.func 146) 0) [.t 5,.t 6,.t 4,.t 7],MV 8 9]))
theorem qCt:qK Tryz.prog 72 10 4 [RV.tmp 8] qDF:=fi Tryz.f72 [4,5,6,7] jS []
def qwz:C:=
 (vS [LD 8 1,MV 6 8] (C.block 0 ((vS [MV 9 6,LD 10 2,BI 11 .lss 9 10] (vU 11 0)).seq ((C.block 1 (vS [vL 14 3 3,LD 15 14,MV 16 6,O2 17 (.idxA 1) 15 16,LD 18 17,LD 19 4,O2 20
 (.idxA 1) 18 19,LD 21 20,MV 7 21] (vS [MV 22 7,vN 23 .geq 22 0,MV 24 23,MG 25 24 true 0,P1 26 24 true (.fldA 2) 3,P1 27 24 true (.load none) 26,P1 28 24 true (.load none) 4,P2
 29 24 true (.idxA 1) 27 28,P1 30 24 true (.load none) 29,MG 31 24 true 7,P2 32 24 true (.idxA 6) 30 31,P1 33 24 true (.load (some 6)) 32,MG 34 24 true 6,⟨some 35,some
 (24,true),.build [.str [],.str [],.str [],i6 0,i6 0,.str [],i6 0] [(0,6),(6,1)],[.t 33,.t 34]⟩,P2 36 24 true .callv 25 35,P1 37 24 true (.un UnOp.not) 36,PF 38 24 37] (vT 38
 C.ret)))).seq (vX 12 6))).loop))
theorem qx8:qK Tryz.prog 146 39 0 [] qwz:=fi Tryz.f146 [] jS []
def qDG:C:=
 (vS [⟨some 0,none,.alloc 0 142 [.nilfn,.nilfn,.nilfn,.nilfn],[]⟩] (vV [⟨some 1,none,.build [.nilfn,.nilfn,.nilfn,.nilfn] [(1,1),(2,1),(3,1)],[.c (.fn (Fn.func 147) [] []),.c
 (.fn (Fn.func 149) [] []),.c (.fn (Fn.func 151) [] [])]⟩,ST 4 0 1]))
theorem qCu:qK Tryz.prog 73 2 1 [RV.cell 0 (some 4)] qDG:=fi Tryz.f73 [0] jS []
def qwA:C:=
 (vS [O1 3 (.box 0 26) 0,O1 4 (.box 1 39) 1,O1 5 (.box 2 65) 2,ON 6 (.nilo 3 7 131) []] (vV [O1 7 (.load (some 4)) 3,vL 8 0 4,LD 9 8,vL 10 1 4,LD 11 10,vL 12 1 3,LD 13 12,vL 14 1
 5,LD 15 14,O2 16 (.call 125 true) 13 15,ON 17 (.call 72 true) [.t 7,.t 9,.t 11,.t 16],O1 18 (.call 148 true) 17,MV 6 18]))
theorem qx9:qK Tryz.prog 147 19 4 [RV.tmp 6] qwA:=fi Tryz.f147 [3,4,5,6] jS []
def qwC:C:=
 (vS [O1 3 (.box 0 26) 0,O1 4 (.box 1 39) 1,O1 5 (.box 2 65) 2,ON 6 (.nilo 3 7 131) []] (vS [ON 7 (.nilo 4 7 131) []] ((vS [vL 10 3 5,LD 11 10,O1 12 (.call 150 true) 11,O1 13
 .len 12,vM 14 0] (C.block 0 (vS [BI 15 .lss 14 13] ((vU 15 0).seq ((C.block 1 (vS [O2 16 (.idxA 6) 12 14,O1 17 (.load (some 6)) 16,⟨some 9,none,.alloc 5 119 [.str [],.str
 [],.str [],i6 0,i6 0,.str []],[]⟩,ST 6 9 17] (vS [vL 18 4 9,LD 19 18,vN 20 .andNot 19 4,vL 21 4 9,ST 1 21 20] (vS [vL 22 5 9,⟨none,none,.store 1,[.t 22,.c (.str [])]⟩] (vW [MV
 23 7,O1 24 (.load (some 6)) 9,vL 25 0 4,LD 26 25,⟨some 27,none,.build [.str [],.str [],.str [],i6 0,i6 0,.str [],i6 0] [(0,6),(6,1)],[.t 24,.t 26]⟩,⟨some 28,none,.bslc 6 7 1
 131 [.str [],.str [],.str [],i6 0,i6 0,.str [],i6 0] [(0,7)],[.t 27]⟩,O2 29 (.app 7 7 131 88) 23 28,MV 7 29]))))).seq (vW [vN 30 .add 14 1,MV 14 30])))).loop)).seq (vV [MV 31
 7,MV 6 31]))))
theorem qyb:qK Tryz.prog 149 32 8 [RV.tmp 6] qwC:=fi Tryz.f149 [3,4,5,6,7,9,28,29] jS []
def qwE:C:=
 (vS [O1 3 (.box 0 26) 0,O1 4 (.box 1 39) 1,O1 5 (.box 2 65) 2,ON 6 (.nilo 3 7 131) []] (vV [ON 6 (.nilo 3 7 131) []]))
theorem qyd:qK Tryz.prog 151 7 4 [RV.tmp 6] qwE:=fi Tryz.f151 [3,4,5,6] jS []
def qwB:C:=
 (vS [ON 2 (.nilo 0 7 131) []] (vV [MV 3 0,ON 4 (.call 223 true) [.c .nl,.t 3],MV 2 4]))
theorem qya:qK Tryz.prog 148 5 1 [RV.tmp 2] qwB:=fi Tryz.f148 [2] jS []
def qoF:C:=
 (vS [O1 3 (.box 0 26) 0,O1 4 (.box 1 3) 1,O1 5 (.box 2 3) 2,vM 6 0,vM 7 0] ((vS [O1 8 (.load (some 4)) 3,O1 9 (.call 47 true) 8,vN 10 .neq 9 0] (vT 10 (vV [vM 6 0,vM 7 1]))).seq
 ((vS [LD 11 4,vN 12 .lss 11 0,MV 13 12,v6 14 13 4,vZ 15 13 1 3,v6 16 13 15,vO 17 13 .len 16,vP 18 13 (.bin .geq) 14 17,PT 19 13 18,MV 20 19,v6 21 20 5,vR 22 20 (.bin .lss) 21
 (i6 0),PT 23 20 22,MV 24 23,v6 25 24 5,vZ 26 24 2 3,v6 27 24 26,v6 28 24 4,vP 29 24 (.idxA 1) 27 28,v6 30 24 29,vO 31 24 .len 30,vP 32 24 (.bin .geq) 25 31,PT 33 24 32] (vT 33
 (vV [vM 6 0,vM 7 2]))).seq (vV [vL 34 3 3,LD 35 34,O2 36 (.mkfn (Fn.func 240) 0) 4 5,O2 37 (.call 239 true) 35 36,MV 6 37,vM 7 0]))))
theorem qk5:qK Tryz.prog 164 38 3 [RV.tmp 6,RV.tmp 7] qoF:=fi Tryz.f164 [3,4,5] jS []
def qwW:C:=
 (vS [MC 4 (.bool false)] (vV [MV 5 0,LD 6 1,O2 7 (.idxA 1) 5 6,LD 8 7,LD 9 2,BI 10 .eql 8 9,MV 4 10]))
theorem qyx:qK Tryz.prog 240 11 0 [RV.tmp 4] qwW:=fi Tryz.f240 [] jS []
end
section
open Go Go.Proofs AF HY LN
namespace AF
theorem ACalls.frzd{P:Program}{f:FuncId}{args:wg}{h h':we}{r:AV}(ks:List Nat)(hs:qa4 ks h=true)(hc:ACalls P f (args.map (frz (λk=>ks.contains k) h 8)) (qeF ks h) r h'):ACalls P f args h r h':=by
 refine⟨hc.1,λw σ xs H hv=> ?_⟩;obtain⟨σ1,g1,g2,g3,g4⟩:=qeG ks H hs;have hv1:VRs w σ1 (args.map (frz (λk=>ks.contains k) h 8)) xs:=⟨by rw[hv.1];simp,λi c x hc hx=>by
  rw[List.getElem?_map,Option.map_eq_some_iff]at hc;obtain⟨c0,hc,rfl⟩:=hc
  exact qle H (λb hb=>(g4 b hb).elim λj ⟨o,h1,h2,h3⟩=>⟨j,o,by simpa using h1,h2,h3⟩) (λj o hj ho=>g3 j o (by simpa using hj) ho) 8 (hv.2 i c0 x hc hx)⟩
 refine (hc.2 w σ1 xs g1 hv1).mono ?_;rintro e w' ⟨v,σ',rfl,k1,k2,k3⟩;exact⟨v,σ',rfl,k1,k2,g2.trans k3⟩
end AF
namespace RC
def qnB(b:List Tk):List Str:=b.map Tk.text
theorem qrd(s:Str):(qhc s).length<=s.length:=by
 unfold qhc;split
 ·exact qdZ s
 ·exact nzl _
theorem qFn(b:List Tk)(h:we)(hn:b.length<=1000000):ACalls Tryz.prog 64 [ja b] h (strs (qnB b)) h:=by
 refine acO qCs ?_;simp (disch:=omega) only[qDE,ja,go_sem];refine qt (T:=λs:Nat×Nat×AObj×AObj=>zg 19 [(6,ja b),(7,.int .i64 b.length),(8,.int .i64 s.1),(3,.osl (h.length+1) s.2.1 1 0 s.1)])
  (H:=λs=>h++ [.emp 1,zw s.2.1 9 (jH (qnB (b.take s.1))),s.2.2.1,s.2.2.2,.emp 0])
  (inv:=λs=>s.1<=b.length∧qH [s.2.2.1] 0=true∧qH [s.2.2.2] 0=true) (m:=λs=>b.length-s.1) (0,1,.emp 0,.emp 0) ⟨nzl _,rfl,rfl⟩ (Wk.temps ?_) ?_
 ·(simp only[ja,go_sem,qh,qf,qb,qg];try exact wa)
 rintro⟨i,v,O1,O2⟩ ⟨i1,i2,i3⟩ K hK;simp only at i1 i2 i3 hK;have i2': ∀m,qH (O1::m) 0=true:=λ_=>i2
 have i3': ∀m,qH (O2::m) 0=true:=λ_=>i3
 have eL:(qnB (b.take i)).length=i:=by unfold qnB;rw[List.length_map,List.length_take];omega
 by_cases hi:i<b.length
 ·have k1:((i:Int)<b.length)=True:=wh;have hS:qnB (b.take (i+1))=qnB (b.take i)++ [(b.getD i default).text]:=by
   unfold qnB;rw[List.take_add_one,zH hi,gdqA,zH hi,List.map_append];rfl
  obtain⟨L,hL⟩:=wc (qnB (b.take i))
  rw[<-hL]at hS eL ⊢;obtain⟨w,hw⟩:=wc (b.getD i default)
  have ew:=hw.symm;rw[ew]at hS;have eC:=cV L;have eTk:List.take i (jH L)=jH L:=ltl om;simp (disch:=omega) only[ja,tkC,k1,ew,i2',i3',eC,eL,eTk,Nat.mul_one,go_sem]
  repeat' first|with_reducible apply aiA|exact clz|fail
  have eA:jH L++ [AV.str w.text]=jH (L++ [w.text]):=by simp[jH]
  have eD:(AV.str w.text::List.drop 1 (zf [AV.str []] 1))= [AV.str w.text]:=rfl;rw[eA,eD];refine hK _ _ (i+1,v+1,.mem (qo (some O1)+1) 119 (tkC w),.mem (qo (some O2)+1) 9 [.str w.text]) ⟨hi,rfl,rfl⟩ (by simp only;omega) ?_;simp only[hS,tkC];refine Wk.temps ?_
  (simp only[ja,tkC,go_sem,qh,qf,qb,qg];try exact wa)
 have k1:((i:Int)<b.length)=False:=wi;obtain rfl:i=b.length:=by omega
 rw[List.take_length]at eL ⊢;simp (disch:=omega) only[k1,go_sem]
 repeat' first|(apply qa;exact rvk;simp only[go_sem])
 exact qdP (λ_=>rfl) eL.symm
theorem qAD(s:Str)(h:we)(hl:s.length<=1000)(hs:s≠ [])(hc:zG s=0)(hg:z6 h frmN frmC):ACalls Tryz.prog 224 [.agg [.str [],.int .i64 0],.osl (h.length+1) 1 4 0 1,.nl] (h++ [.emp 1,.mem 1 234 (.int .i64 1:: .str s:: .int .i64 0:: .nl::List.drop 4 (zf [.int .i64 0,.str [],.int .i64 0,.nl] 1))]) (.tup [ja (qhc s),.int .i64 (qhb s)]) (h++ [.emp 1,.emp 2]):=by
 have c1:=qC5 s (h++ [.emp 1,.emp 2]) hl hs hc hg.app;refine ACalls.frzd [h.length+1] ?s1 ?s2
 case s1=>simp only[qa4,go_sem]
 case s2=>
  simp only[List.map_cons,List.map_nil,qeF,go_sem];have e: [h.length+1].contains (h.length+1)=true:=by simp
  simp only[e,if_true];refine c1.le ⟨qi,?_,qi,trivial⟩ (qi);unfold jT;refine VLe.sl_eq rfl (λi hi=> ?_);obtain rfl:i=0:=by omega
  rfl
theorem qDX(s:Str)(h:we)(hl:s.length<=1000)(hg:z6 h frmN frmC):ACalls Tryz.prog 165 [.str s] h (.tup [strs (if zG s≠0 then [] else qnB (qhc s)),.int .i64 (qi6 s)]) h:=by
 have c0: ∀h,ACalls Tryz.prog 219 [.str s] h (.int .i64 (zG s)) h:=λh=>qC3 s h om
 unfold qi6
 by_cases g:zG s=0
 case neg=>
  have k1:(zG s=0)=False:=eqf g;rw[ipo g,ipo g];refine acO qk6 ?_;simp (disch:=omega) only[qoG,go_sem]
  repeat' first|(refine cA (c0 _) flk ?_;simp (disch:=omega) only[k1,go_sem])|(apply qa;exact rvk;simp only[go_sem])
  exact VLe.tup ⟨zB,qi,trivial⟩
 rw[ine (by simpa using g),ine (by simpa using g)];rw[g]at c0
 by_cases hs:s= []
 ·subst hs;refine acO qk6 ?_;simp (disch:=omega) only[qoG,go_sem]
  repeat' first|(refine cA (c0 _) flk ?_;simp (disch:=omega) only[go_sem])|(apply qa;exact rvk;simp only[go_sem])
  exact VLe.tup ⟨zB,qi,trivial⟩
 have k2:(s= [])=False:=eqf hs;have c2:=λh=>qFn (qhc s) h (Nat.le_trans (qrd s) om)
 refine acO qk6 ?_;simp (disch:=omega) only[qoG,go_sem]
 repeat' first|(refine cA (c0 _) flk ?_;simp (disch:=omega) only[k2,go_sem])
 refine qy (qAD s h hl hs g hg) (by exact flk) ?_;simp (disch:=omega) only[go_sem]
 repeat' first|(refine cA (c2 _) flk ?_;simp (disch:=omega) only[go_sem])|exact v7|with_reducible apply aiA|exact clz|fail
theorem qEh(s:Str)(h:we)(hl:s.length<=1000)(hs:s≠ [])(hc:zG s=0)(hg:z6 h frmN frmC):ACalls Tryz.prog 150 [.str s] h (ja (qhc s)) h:=by
 refine acO qyc ?_;simp (disch:=omega) only[qwD,go_sem];refine qy (qAD s h hl hs hc hg) (by exact flk) ?_;simp (disch:=omega) only[go_sem]
 repeat' first|exact v7|with_reducible apply aiA|exact clz|fail
end RC
end
section
open Go Go.Proofs AF HY LN
namespace RC
theorem qxD{col:List (List Int)}{s t:Nat}: ∀ {n:Nat},t<cnC col s n-> ∃k,k<n∧(col.getD k []).getD s 0≠ -1∧cnC col s k=t:=by
 intro n
 induction n with
 |zero=>intro h;exact absurd h (nnz _)
 |succ n ih=>
  intro h;unfold cnC at h
  by_cases g:t<cnC col s n
  ·obtain⟨k,h1,h2⟩:=ih g;exact⟨k,om,h2⟩
  ·split at h
   ·omega
   ·rename_i g2;exact⟨n,Nat.lt_succ_self n,g2,om⟩
theorem qdi{x:Co}(ho:CoOk x){s:Nat}(hs:s<x.sig.length){t:Int}(h0:0<=t)(ht:t<((x.tok.getD s []).length:Int)):0<=kW x s t∧kW x s t<x.col.length:=by
 obtain⟨k,k1,k2,k3⟩:=qxD (col:=x.col) (s:=s) (t:=t.toNat) (n:=x.col.length) (by rw[ho.ct s hs];omega);unfold kW;rcases zT (λk=>decide ((x.col.getD k []).getD s 0=t)) x.col.length with⟨i,g1,g2,_,g4⟩|⟨g1,g2⟩
 ·rw[g4];omega
 ·have:=g1 k k1
  rcases ho.ce k k1 s hs with e|⟨e,_⟩
  ·exact absurd e k2
  ·rw[decide_eq_false_iff_not]at this;exact absurd (by rw[e,k3];omega) this
theorem qEg(c:List Int)(s:Nat)(t:Int)(h:we)(hs:s<c.length)(hc:c.length<=1000000000):ACalls Tryz.prog 240 [qP c,.ip [.int .i64 (s:Int)],.ip [.int .i64 t]] h (.bool (decide (c.getD s 0=t))) h:=by
 have k0:(0<=(s:Int))=True:=wh;have k1:((s:Int)<c.length)=True:=wh;refine acO qyx ?_;simp (disch:=omega) only[qwW,qP,k0,k1,go_sem]
 repeat' first|exact v8|with_reducible apply aiA|exact clz|fail
theorem qEA(col:List (List Int))(s:Nat)(t:Int)(k v k2 v2:Nat)(h:we)(hk:qq k h=some (.mem v 3 [.int .i64 (s:Int)]))(hk2:qq k2 h=some (.mem v2 3 [.int .i64 t]))(hl:col.length<=1000000000)(hm: ∀i,i<col.length->s<(col.getD i []).length∧(col.getD i []).length<=1000000000):
  ACalls Tryz.prog 239 [qw col,.fn (.func 240) [] [.op k v 0,.op k2 v2 0]] h (.int .i64 (qbF (λi=>decide ((col.getD i []).getD s 0=t)) col.length 0)) h:=by
 have hc:=qQ hk;have hc2:=qQ hk2;unfold qw;refine qex qyw col.length (λj=> [qP (col.getD j [])]) (λj=>qP (col.getD j [])) _ [] [.op k v 0,.op k2 v2 0] _ h (λi _=>⟨rfl,by simp[jZ],rfl,rfl,rfl⟩) (λi hi=> ?_) om;refine ACalls.borrow ?_ rfl;have e:([qP (col.getD i [])]++ [AV.op k v 0,AV.op k2 v2 0]).map (rei (λ_=>true) h 8)= [qP (col.getD i []),.ip [.int .i64 (s:Int)],.ip [.int .i64 t]]:=by
  simp only[lca,lna,List.map_cons,List.map_nil,rei_op,if_true,hc,hc2,ipOf_some,List.drop_zero];rfl
 rw[lna,e];exact qEg _ s t _ (hm i hi).1 (hm i hi).2
theorem qB2(x:Co)(s:Nat)(t:Int)(h:we)(hz:qfk x)(hp:ku SG h)(h1:coE x=0)(hs:s<x.sig.length):ACalls Tryz.prog 164 [.agg (coC x),.int .i64 (s:Int),.int .i64 t] h (.tup [.int .i64 (if 0<=t∧t<((x.tok.getD s []).length:Int) then kW x s t else 0),.int .i64 (if 0<=t∧t<((x.tok.getD s []).length:Int) then 0 else 2)]) h:=by
 have ho:=qad h1;have hsg:=hz.sg;have htl:=hz.tl s;have htn:=ho.tn;have c1:=λl=>coP x (h++l) hz (hp.app l)
 simp only[h1]at c1;have zu: ∀g l,valL g .len [ja l]= .int .i64 l.length:=λ_ _=>rfl
 have zv: ∀g l,okL g .len [ja l]=True:=λ_ _=>eqt trivial
 have k0:((s:Int)<0)=False:=wi;have k1:((x.sig.length:Int)<=s)=False:=wi;have k5:(0<=(s:Int))=True:=wh;have k6:((s:Int)<x.tok.length)=True:=wh
 by_cases g:0<=t∧t<((x.tok.getD s []).length:Int)
 ·rw[ipo g,ipo g];have k2:(t<0)=False:=wi;have k3:(((x.tok.getD s []).length:Int)<=t)=False:=wi;have c2:=qEA x.col s t (h.length+1) 1 (h.length+2) 1 (h++ [.mem 1 26 (coC x),.mem 1 3 [.int .i64 (s:Int)],.mem 1 3 [.int .i64 t]]) (by simp only[go_sem]) (by simp only[go_sem]) hz.cl (λi hi=>⟨by rw[ho.cl i hi];exact hs,hz.ce i⟩);unfold coC at c1 c2;refine acO qk5 ?_;simp (disch:=omega) only[qoF,coC,qp,strs,go_sem]
  repeat' first|((first|refine cA (c1 _) ?_ ?_|refine cA (c2) ?_ ?_);exact flk;simp (disch:=omega) only[k0,k1,k2,k3,k5,k6,zu,zv,go_sem])|exact v7|with_reducible apply aiA|exact clz|fail
 ·rw[ine g,ine g];unfold coC at c1
  by_cases g2:t<0
  ·have k2:(t<0)=True:=wh;refine acO qk5 ?_;simp (disch:=omega) only[qoF,coC,qp,strs,go_sem]
   repeat' first|(refine cA (c1 _) flk ?_;simp (disch:=omega) only[k0,k1,k2,k5,k6,zu,zv,go_sem])|exact v7|with_reducible apply aiA|exact clz|fail
  ·have k2:(t<0)=False:=wi;have k3:(((x.tok.getD s []).length:Int)<=t)=True:=wh;refine acO qk5 ?_;simp (disch:=omega) only[qoF,coC,qp,strs,go_sem]
   repeat' first|(refine cA (c1 _) flk ?_;simp (disch:=omega) only[k0,k1,k2,k3,k5,k6,zu,zv,go_sem])|exact v7|with_reducible apply aiA|exact clz|fail
end RC
end
