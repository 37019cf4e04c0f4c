import Derived.Test.YtmieflnoheifbaaGreatDoorK6
import Derived.Test.YtmieflnoheifbaaGreatDoorK4
set_option linter.all false
section
namespace AF
open Go
theorem qqB:AV.el.strip=AV.el:=rfl
theorem qth:AV.el.flag=true:=rfl
theorem qqr:AV.el.solid=true:=rfl
theorem qoq:AV.el.cells= [AV.el]:=rfl
theorem qt1:zI .slice .el=some false:=rfl
theorem qd8{n:Bool}:valP (.isnil .slice n) [.el]= .bool (n !=false):=rfl
theorem qeP{n:Bool}:okP (.isnil .slice n) [.el]=True:=eqt rfl
theorem qiR{g:wh}:valL g .len [.el]= .int .i64 0:=rfl
theorem qlG{g:wh}:okL g .len [.el]=True:=rfl
theorem qdY{h:wh}:ql h .el=some (0,[]):=rfl
theorem qi4{k v z p n:Nat}:qaz (.osl k v z p n) .el=true:=rfl
theorem qAS{fz:Nat->Bool}{h:wh}{n:Nat}:rei fz h (n+1) .el= .el:=rfl
theorem qzX{fz:Nat->Bool}{h:wh}{n:Nat}:frz fz h (n+1) .el= .el:=rfl
theorem qq3{f:Nat->wi}:VLe .el (.sl 0 f):=VLe.still rfl ILe.el
attribute [go_sem] qqB qth qqr qoq qt1 qd8 qeP qiR qlG qdY qi4 qAS qzX
theorem qBw{w:World}{σ:List OB}{f:Nat->wi}{x:Value}(h:VR w σ (.sl 0 f) x):VR w σ .nl x∨VR w σ .el x:=by
 rcases qfg h with⟨_,a,rfl⟩|⟨_,b,off,cap,_,rfl,_,h2,_,h4,_⟩
 ·cases a with
  |none=>exact .inl (.imm .nl)
  |some a=>exact .inr (.imm (.el (.inl rfl)))
 ·exact .inr (.imm (.el (.inr ⟨b,off,rfl,h2,h4⟩)))
theorem ACalls.sl0{P:Program}{f:FuncId}{pre post:wi}{g:Nat->wi}{h h':wh}{r:AV}(h1:ACalls P f (pre++ .nl::post) h r h')(h2:ACalls P f (pre++ .el::post) h r h'):ACalls P f (pre++ .sl 0 g::post) h r h':=by
 refine⟨h1.1,λw σ xs H hv=> ?_⟩;have hlt:pre.length<xs.length:=by rw[hv.1];simp
 have hx:=hv.2 pre.length (.sl 0 g) xs[pre.length] (by simp) (zD hlt);have go: ∀a,VR w σ a xs[pre.length]->VRs w σ (pre++a::post) xs:=by
  intro a ha;refine⟨by rw[hv.1];simp,λi c x hc hxi=> ?_⟩
  by_cases e:i=pre.length
  ·subst e;simp at hc;subst hc;rw[zD hlt]at hxi;cases hxi;exact ha
  ·refine hv.2 i c x ?_ hxi;rw[<-hc];rcases Nat.lt_or_ge i pre.length with hi|hi
   ·rw[List.getElem?_append_left hi,List.getElem?_append_left hi]
   ·rw[List.getElem?_append_right hi,List.getElem?_append_right hi,show i-pre.length=(i-pre.length-1)+1 by omega];rfl
 rcases qBw hx with hn|hn
 ·exact h1.2 w σ xs H (go _ hn)
 ·exact h2.2 w σ xs H (go _ hn)
theorem dvP{a b:Int}(h:0<=a):a.tdiv b=a/b:=Int.tdiv_eq_ediv_of_nonneg h
theorem mdP{a b:Int}(h:0<=a):a.tmod b=a%b:=Int.tmod_eq_emod_of_nonneg h
theorem acO{P:Program}{f nt ns:Nat}{rs:List RV}{c:C}(hf:qG P f nt ns rs c){args:wi}{h:wh}{r:AV}{h':wh}
  (hw:ze P h.length c (fnQ rs h λr1 h1=>r1=r∧h1=h') (args++List.replicate (nt-args.length) .undef) (h++List.replicate ns (.emp 0))) (ha:args.length<=nt:=by simp):ACalls P f args h r h':=qF hf ha hw
theorem acQ{P:Program}{f nt ns:Nat}{rs:List RV}{c:C}(hf:qG P f nt ns rs c){args:wi}{h:wh}{K:AV->wh->Prop}
  (hw:ze P h.length c (fnQ rs h K) (args++List.replicate (nt-args.length) .undef) (h++List.replicate ns (.emp 0))) (ha:args.length<=nt:=by simp):jj P f args h K:=qbe hf ha hw
theorem cA{P:Program}{f:Nat}{p:Bool}{vs:wi}{d:Option Nat}{nx:Nx}{t:wi}{h:wh}{r:AV}(hc:ACalls P f (strips vs) h r h)(hf:flags vs)(hn:nx (qY t d r) h):qj4 P f p vs d nx t h:=qL hc hf hn
theorem cG{P:Program}{f:Nat}{p g:Bool}{vs:wi}{d:Option Nat}{nx:Nx}{t:wi}{h:wh}{r:AV}(hc:g=true->ACalls P f (strips vs) h r h)(hf:g=true->flags vs)(hn:nx (qY t d (.gd g r)) h):qj5 P f p g vs d nx t h:=qQ (λe=>⟨hf e,hc e⟩) hn
theorem cU{P:Program}{f:Nat}{vs:wi}{d:Option Nat}{nx:Nx}{t:wi}{h:wh}{r:AV}(hc: ∀h0,ACalls P f (strips vs) h0 r h0)(hf:flags vs)(hn:nx (qY t d r) h):qok P f vs d nx t h:=qol hc hf hn
theorem flk{p:Prop}(h:p:=by (try intro _);repeat' first|exact qtp|refine qto (by first|rfl|assumption) ?_):p:=h
theorem rvk{p:Prop}(h:p:=by repeat' first|exact qDX|refine qDY ?_|(simp[go_sem]<;>fail)):p:=h
theorem clz{p:Prop}(h:p:=by first|omega|(rename_i hx;revert hx;simp<;>fail)|(simp<;>fail)):p:=h
theorem tmq{p:Prop}(h:p:=by (simp only[List.replicate,go_sem,qf,qc,qa,qe];try (repeat' first|(with_reducible apply aiA)|(apply qg;omega)|(apply qd;rfl)|exact qi))):p:=h
attribute [go_sem] qr dvP mdP qP List.foldl List.replicate
end AF
end
open Go AF
theorem wa{p:Prop}(h:p:=by apply qb;exact rvk;simp only[go_sem];exact qi):p:=h
theorem wc{p:Prop}(h:p:=by apply qh;exact rvk;simp only[go_sem];exact qi):p:=h
