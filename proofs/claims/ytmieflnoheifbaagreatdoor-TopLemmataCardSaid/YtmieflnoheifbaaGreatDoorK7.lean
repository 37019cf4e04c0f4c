import Derived.Test.YtmieflnoheifbaaGreatDoorK6
import Derived.Test.YtmieflnoheifbaaGreatDoorK4
set_option linter.all false
section
namespace AF
open Go
theorem qq2:AV.el.strip=AV.el:=rfl
theorem qtG:AV.el.flag=true:=rfl
theorem qqQ:AV.el.solid=true:=rfl
theorem qoR:AV.el.cells= [AV.el]:=rfl
theorem qun:zn .slice .el=some false:=rfl
theorem qd1{n:Bool}:valP (.isnil .slice n) [.el]= .bool (n !=false):=rfl
theorem qeM{n:Bool}:okP (.isnil .slice n) [.el]=True:=eqt rfl
theorem qiV{g:we}:valL g .len [.el]= .int .i64 0:=rfl
theorem ql2{g:we}:okL g .len [.el]=True:=rfl
theorem qdS{h:we}:qj h .el=some (0,[]):=rfl
theorem qjb{k v z p n:Nat}:qa9 (.osl k v z p n) .el=true:=rfl
theorem qAe{fz:Nat->Bool}{h:we}{n:Nat}:rei fz h (n+1) .el= .el:=rfl
theorem qzl{fz:Nat->Bool}{h:we}{n:Nat}:frz fz h (n+1) .el= .el:=rfl
theorem qrv{f:Nat->wg}:VLe .el (.sl 0 f):=VLe.still rfl ILe.el
attribute [go_sem] qq2 qtG qqQ qoR qun qd1 qeM qiV ql2 qdS qjb qAe qzl
theorem qAJ{w:World}{σ:List OB}{f:Nat->wg}{x:Value}(h:VR w σ (.sl 0 f) x):VR w σ .nl x∨VR w σ .el x:=by
 rcases qfd h with⟨_,a,rfl⟩|⟨_,b,off,cap,_,rfl,_,h2,_,h4,_⟩
 ·cases a with
  |none=>exact .inl (.imm .nl)
  |some a=>exact .inr (.imm (.el (.inl rfl)))
 ·exact .inr (.imm (.el (.inr ⟨b,off,rfl,h2,h4⟩)))
theorem ACalls.sl0{P:Program}{f:FuncId}{pre post:wg}{g:Nat->wg}{h h':we}{r:AV}(h1:ACalls P f (pre++ .nl::post) h r h')(h2:ACalls P f (pre++ .el::post) h r h'):ACalls P f (pre++ .sl 0 g::post) h r h':=by
 refine⟨h1.1,λw σ xs H hv=> ?_⟩;have hlt:pre.length<xs.length:=by rw[hv.1];simp
 have hx:=hv.2 pre.length (.sl 0 g) xs[pre.length] (by simp) (zH hlt);have go: ∀a,VR w σ a xs[pre.length]->VRs w σ (pre++a::post) xs:=by
  intro a ha;refine⟨by rw[hv.1];simp,λi c x hc hxi=> ?_⟩
  by_cases e:i=pre.length
  ·subst e;simp at hc;subst hc;rw[zH hlt]at hxi;cases hxi;exact ha
  ·refine hv.2 i c x ?_ hxi;rw[<-hc];rcases Nat.lt_or_ge i pre.length with hi|hi
   ·rw[List.getElem?_append_left hi,List.getElem?_append_left hi]
   ·rw[List.getElem?_append_right hi,List.getElem?_append_right hi,show i-pre.length=(i-pre.length-1)+1 by omega];rfl
 rcases qAJ hx with hn|hn
 ·exact h1.2 w σ xs H (go _ hn)
 ·exact h2.2 w σ xs H (go _ hn)
theorem dvP{a b:Int}(h:0<=a):a.tdiv b=a/b:=Int.tdiv_eq_ediv_of_nonneg h
theorem mdP{a b:Int}(h:0<=a):a.tmod b=a%b:=Int.tmod_eq_emod_of_nonneg h
theorem acO{P:Program}{f nt ns:Nat}{rs:List RV}{c:C}(hf:qK P f nt ns rs c){args:wg}{h:we}{r:AV}{h':we}
  (hw:qW P h.length c (fnQ rs h λr1 h1=>r1=r∧h1=h') (args++List.replicate (nt-args.length) .undef) (h++List.replicate ns (.emp 0))) (ha:args.length<=nt:=by simp):ACalls P f args h r h':=qx hf ha hw
theorem acQ{P:Program}{f nt ns:Nat}{rs:List RV}{c:C}(hf:qK P f nt ns rs c){args:wg}{h:we}{K:AV->we->Prop}
  (hw:qW P h.length c (fnQ rs h K) (args++List.replicate (nt-args.length) .undef) (h++List.replicate ns (.emp 0))) (ha:args.length<=nt:=by simp):zU P f args h K:=qaJ hf ha hw
theorem cA{P:Program}{f:Nat}{p:Bool}{vs:wg}{d:Option Nat}{nx:Nx}{t:wg}{h:we}{r:AV}(hc:ACalls P f (strips vs) h r h)(hf:flags vs)(hn:nx (qT t d r) h):qka P f p vs d nx t h:=qI hc hf hn
theorem cG{P:Program}{f:Nat}{p g:Bool}{vs:wg}{d:Option Nat}{nx:Nx}{t:wg}{h:we}{r:AV}(hc:g=true->ACalls P f (strips vs) h r h)(hf:g=true->flags vs)(hn:nx (qT t d (.gd g r)) h):qkb P f p g vs d nx t h:=qN (λe=>⟨hf e,hc e⟩) hn
theorem cU{P:Program}{f:Nat}{vs:wg}{d:Option Nat}{nx:Nx}{t:wg}{h:we}{r:AV}(hc: ∀h0,ACalls P f (strips vs) h0 r h0)(hf:flags vs)(hn:nx (qT t d r) h):qoM P f vs d nx t h:=qoN hc hf hn
theorem flk{p:Prop}(h:p:=by (try intro _);repeat' first|exact qtO|refine qtN (by first|rfl|assumption) ?_):p:=h
theorem rvk{p:Prop}(h:p:=by repeat' first|exact qCY|refine qCZ ?_|(simp[go_sem]<;>fail)):p:=h
theorem clz{p:Prop}(h:p:=by first|omega|(rename_i hx;revert hx;simp<;>fail)|(simp<;>fail)):p:=h
theorem tmq{p:Prop}(h:p:=by (simp only[List.replicate,go_sem,qh,qf,qb,qg];try (repeat' first|(with_reducible apply aiA)|(apply qe;omega)|(apply qd;rfl)|exact qi))):p:=h
attribute [go_sem] qm dvP mdP zg List.foldl List.replicate
end AF
end
open Go AF
theorem v7{p:Prop}(h:p:=by apply qa;exact rvk;simp only[go_sem];exact qi):p:=h
theorem v8{p:Prop}(h:p:=by apply qc;exact rvk;simp only[go_sem];exact qi):p:=h
