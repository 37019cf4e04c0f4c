import Derived.Test.YtiiegfkjmnoijaaGreatDoorK6
import Derived.Test.YtiiegfkjmnoijaaGreatDoorK4
set_option linter.all false
section
namespace AF
open Go
theorem Aa:AV.el.strip=AV.el:=rfl
theorem D2:AV.el.flag=true:=rfl
theorem YY:AV.el.solid=true:=rfl
theorem Wp:AV.el.cells= [AV.el]:=rfl
theorem EP:zO .slice .el=some false:=rfl
theorem gY{n:Bool}:valP (.isnil .slice n) [.el]= .bool (n !=false):=rfl
theorem lk{n:Bool}:okP (.isnil .slice n) [.el]=True:=eqt rfl
theorem tA{g:w6}:valL g .len [.el]= .int .i64 0:=rfl
theorem ZU{g:w6}:okL g .len [.el]=True:=rfl
theorem gN{h:w6}:qk h .el=some (0,[]):=rfl
theorem tY{k v z p n:Nat}:yy (.osl k v z p n) .el=true:=rfl
theorem PM{fz:Nat->Bool}{h:w6}{n:Nat}:rei fz h (n+1) .el= .el:=rfl
theorem On{fz:Nat->Bool}{h:w6}{n:Nat}:frz fz h (n+1) .el= .el:=rfl
theorem AQ{f:Nat->w7}:VLe .el (.sl 0 f):=VLe.still rfl ILe.el
attribute [go_sem] Aa D2 YY Wp EP gY lk tA ZU gN tY PM On
theorem RD{w:World}{σ:List OB}{f:Nat->w7}{x:Value}(h:VR w σ (.sl 0 f) x):VR w σ .nl x∨VR w σ .el x:=by
 rcases mc h with⟨_,a,rfl⟩|⟨_,b,off,cap,_,rfl,_,h2,_,h4,_⟩
 ·cases a with
  |none=>exact .inl (.imm .nl)
  |some a=>exact .inr (.imm (.el (.inl rfl)))
 ·exact .inr (.imm (.el (.inr ⟨b,off,rfl,h2,h4⟩)))
theorem ACalls.sl0{P:Program}{f:FuncId}{pre post:w7}{g:Nat->w7}{h h':w6}{r:AV}(h1:ACalls P f (pre++ .nl::post) h r h')(h2:ACalls P f (pre++ .el::post) h r h'):ACalls P f (pre++ .sl 0 g::post) h r h':=by
 refine⟨h1.1,λw σ xs H hv=> ?_⟩;have hlt:pre.length<xs.length:=by rw[hv.1];simp
 have hx:=hv.2 pre.length (.sl 0 g) xs[pre.length] (by simp) (zG hlt);have go: ∀a,VR w σ a xs[pre.length]->VRs w σ (pre++a::post) xs:=by
  intro a ha;refine⟨by rw[hv.1];simp,λi c x hc hxi=> ?_⟩
  by_cases e:i=pre.length
  ·subst e;simp at hc;subst hc;rw[zG hlt]at hxi;cases hxi;exact ha
  ·refine hv.2 i c x ?_ hxi;rw[<-hc];rcases Nat.lt_or_ge i pre.length with hi|hi
   ·rw[List.getElem?_append_left hi,List.getElem?_append_left hi]
   ·rw[List.getElem?_append_right hi,List.getElem?_append_right hi,show i-pre.length=(i-pre.length-1)+1 by omega];rfl
 rcases RD hx with hn|hn
 ·exact h1.2 w σ xs H (go _ hn)
 ·exact h2.2 w σ xs H (go _ hn)
theorem dvP{a b:Int}(h:0<=a):a.tdiv b=a/b:=Int.tdiv_eq_ediv_of_nonneg h
theorem mdP{a b:Int}(h:0<=a):a.tmod b=a%b:=Int.tmod_eq_emod_of_nonneg h
theorem acO{P:Program}{f nt ns:Nat}{rs:List RV}{c:C}(hf:qN P f nt ns rs c){args:w7}{h:w6}{r:AV}{h':w6}
  (hw:zy P h.length c (fnQ rs h λr1 h1=>r1=r∧h1=h') (args++List.replicate (nt-args.length) .undef) (h++List.replicate ns (.emp 0))) (ha:args.length<=nt:=by simp):ACalls P f args h r h':=qJ hf ha hw
theorem acQ{P:Program}{f nt ns:Nat}{rs:List RV}{c:C}(hf:qN P f nt ns rs c){args:w7}{h:w6}{K:AV->w6->Prop}
  (hw:zy P h.length c (fnQ rs h K) (args++List.replicate (nt-args.length) .undef) (h++List.replicate ns (.emp 0))) (ha:args.length<=nt:=by simp):jo P f args h K:=ah hf ha hw
theorem cA{P:Program}{f:Nat}{p:Bool}{vs:w7}{d:Option Nat}{nx:Nx}{t:w7}{h:w6}{r:AV}(hc:ACalls P f (strips vs) h r h)(hf:flags vs)(hn:nx (qR t d r) h):rn P f p vs d nx t h:=qO hc hf hn
theorem cE{P:Program}{f:Nat}{vs:w7}{d:Option Nat}{nx:Nx}{t:w7}{h h':w6}{r:AV}(hc:ACalls P f (strips vs) h r h')(hf:flags vs)(hn:nx (qR t d r) h'):rn P f false vs d nx t h:=qE hc hf hn
theorem cG{P:Program}{f:Nat}{p g:Bool}{vs:w7}{d:Option Nat}{nx:Nx}{t:w7}{h:w6}{r:AV}(hc:g=true->ACalls P f (strips vs) h r h)(hf:g=true->flags vs)(hn:nx (qR t d (.gd g r)) h):Qb P f p g vs d nx t h:=qU (λe=>⟨hf e,hc e⟩) hn
theorem cU{P:Program}{f:Nat}{vs:w7}{d:Option Nat}{nx:Nx}{t:w7}{h:w6}{r:AV}(hc: ∀h0,ACalls P f (strips vs) h0 r h0)(hf:flags vs)(hn:nx (qR t d r) h):Wl P f vs d nx t h:=Wm hc hf hn
theorem flk{p:Prop}(h:p:=by (try intro _);repeat' first|exact Ea|refine D9 (by first|rfl|assumption) ?_):p:=h
theorem rvk{p:Prop}(h:p:=by repeat' first|exact qdr|refine qds ?_|(simp[go_sem]<;>fail)):p:=h
theorem clz{p:Prop}(h:p:=by first|omega|(rename_i hx;revert hx;simp<;>fail)|(simp<;>fail)):p:=h
theorem tmq{p:Prop}(h:p:=by (simp only[List.replicate,go_sem,qg,qc,qa,qf];try (repeat' first|(with_reducible apply aiA)|(apply qe;omega)|(apply qd;rfl)|exact qi))):p:=h
attribute [go_sem] qt dvP mdP zw List.foldl List.replicate
theorem fN{ks:List Nat}: ∀ {h:w6} {j:Nat},j∉ks->qv j (xu ks h)=qv j h:=by
 induction ks with
 |nil=>intro h j _;rfl
 |cons k ks ih=>
  intro h j hj;simp only[List.mem_cons,not_or]at hj;show qv j (xu ks _)=_;rw[ih hj.2,qX hj.1]
theorem Wk.freezeC(ks:List Nat){t:w7}{h:w6}{j v:Nat}{ty:TypeId}{cs:w7}(hs:j8 ks h=true)(hj:qv j h=some (.mem v ty cs))(hn:j∉ks):
  Wk t h (t.map (frz (λk=>ks.contains k) h 8)) (qu j (xu ks h) (.mem v ty (cs.map (frz (λk=>ks.contains k) h 8)))):=by
 intro N w σ a H;obtain⟨σ',g1,g2,g3,g4⟩:=yP ks H.hr hs;have frzv: ∀c x,VR w σ c x->VR w σ' (frz (λk=>ks.contains k) h 8 c) x:=λc x hx=>
  iR H.hr (λb hb=>(g4 b hb).elim λj ⟨o,h1,h2,h3⟩=>⟨j,o,by simpa using h1,h2,h3⟩) (λj o hj ho=>g3 j o (by simpa using hj) ho) 8 hx
 have hjl:j<σ.length:=by rw[H.hr.len];exact zA hj
 have ho:=zG hjl;obtain⟨m1,m2,b,arr,m3,m4,m5,m6,m7,m8⟩:=H.hr.obj j _ _ hj ho;have q:=g1.recell (cs':=cs.map (frz (λk=>ks.contains k) h 8)) ((fN hn).trans hj) (g3 j _ hn ho) m3 m4 m5 (by simpa using m6) (λi x hi hx=>m7 i x (by simpa using hi) hx) (λi c x hc hx=>by
  rw[List.getElem?_map,Option.map_eq_some_iff]at hc;obtain⟨c0,hc,rfl⟩:=hc
  exact frzv c0 x (m8 i c0 x hc hx))
 refine⟨σ',⟨q,by simp[H.sz],λi c x hc hx=> ?_,xp g2 H.df⟩,g2⟩;rw[List.getElem?_map,Option.map_eq_some_iff]at hc;obtain⟨c0,hc,rfl⟩:=hc;exact frzv c0 x (H.tm i c0 x hc hx)
end AF
end
open Go AF
theorem wj{p:Prop}(h:p:=by apply qb;exact rvk;simp only[go_sem];exact qi):p:=h
theorem wm{p:Prop}(h:p:=by apply qh;exact rvk;simp only[go_sem];exact qi):p:=h
