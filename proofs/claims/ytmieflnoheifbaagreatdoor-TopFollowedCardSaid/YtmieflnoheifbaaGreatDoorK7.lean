import Derived.Test.YtmieflnoheifbaaGreatDoorK6
import Derived.Test.YtmieflnoheifbaaGreatDoorK4
set_option linter.all false
section
namespace AF
open Go
theorem Wc:AV.el.strip=AV.el:=rfl
theorem Y1:AV.el.flag=true:=rfl
theorem V0:AV.el.solid=true:=rfl
theorem Jh:AV.el.cells= [AV.el]:=rfl
theorem AQ:zy .slice .el=some false:=rfl
theorem cZ{n:Bool}:valP (.isnil .slice n) [.el]= .bool (n !=false):=rfl
theorem eX{n:Bool}:okP (.isnil .slice n) [.el]=True:=eqt rfl
theorem oN{g:JN}:valL g .len [.el]= .int .i64 0:=rfl
theorem uh{g:JN}:okL g .len [.el]=True:=rfl
theorem cJ{h:JN}:qk h .el=some (0,[]):=rfl
theorem pj{k v z p n:Nat}:xY (.osl k v z p n) .el=true:=rfl
theorem IY{fz:Nat->Bool}{h:JN}{n:Nat}:rei fz h (n+1) .el= .el:=rfl
theorem H7{fz:Nat->Bool}{h:JN}{n:Nat}:frz fz h (n+1) .el= .el:=rfl
theorem WN{f:Nat->JT}:VLe .el (.sl 0 f):=VLe.still rfl ILe.el
attribute [go_sem] Wc Y1 V0 Jh AQ cZ eX oN uh cJ pj IY H7
theorem LL{w:World}{σ:List OB}{f:Nat->JT}{x:Value}(h:VR w σ (.sl 0 f) x):VR w σ .nl x∨VR w σ .el x:=by
 rcases fG h with⟨_,a,rfl⟩|⟨_,b,off,cap,_,rfl,_,h2,_,h4,_⟩
 ·cases a with
  |none=>exact .inl (.imm .nl)
  |some a=>exact .inr (.imm (.el (.inl rfl)))
 ·exact .inr (.imm (.el (.inr ⟨b,off,rfl,h2,h4⟩)))
theorem ACalls.sl0{P:Program}{f:FuncId}{pre post:JT}{g:Nat->JT}{h h':JN}{r:AV}(h1:ACalls P f (pre++ .nl::post) h r h')(h2:ACalls P f (pre++ .el::post) h r h'):ACalls P f (pre++ .sl 0 g::post) h r h':=by
 refine⟨h1.1,λw σ xs H hv=> ?_⟩;have hlt:pre.length<xs.length:=by rw[hv.1];simp
 have hx:=hv.2 pre.length (.sl 0 g) xs[pre.length] (by simp) (zg hlt);have go: ∀a,VR w σ a xs[pre.length]->VRs w σ (pre++a::post) xs:=by
  intro a ha;refine⟨by rw[hv.1];simp,λi c x hc hxi=> ?_⟩
  by_cases e:i=pre.length
  ·subst e;simp at hc;subst hc;rw[zg hlt]at hxi;cases hxi;exact ha
  ·refine hv.2 i c x ?_ hxi;rw[<-hc];rcases Nat.lt_or_ge i pre.length with hi|hi
   ·rw[List.getElem?_append_left hi,List.getElem?_append_left hi]
   ·rw[List.getElem?_append_right hi,List.getElem?_append_right hi,show i-pre.length=(i-pre.length-1)+1 by omega];rfl
 rcases LL hx with hn|hn
 ·exact h1.2 w σ xs H (go _ hn)
 ·exact h2.2 w σ xs H (go _ hn)
theorem dvP{a b:Int}(h:0<=a):a.tdiv b=a/b:=Int.tdiv_eq_ediv_of_nonneg h
theorem mdP{a b:Int}(h:0<=a):a.tmod b=a%b:=Int.tmod_eq_emod_of_nonneg h
theorem acO{P:Program}{f nt ns:Nat}{rs:List RV}{c:C}(hf:qK P f nt ns rs c){args:JT}{h:JN}{r:AV}{h':JN}
  (hw:qV P h.length c (fnQ rs h λr1 h1=>r1=r∧h1=h') (args++List.replicate (nt-args.length) .undef) (h++List.replicate ns (.emp 0))) (ha:args.length<=nt:=by simp):ACalls P f args h r h':=qy hf ha hw
theorem acQ{P:Program}{f nt ns:Nat}{rs:List RV}{c:C}(hf:qK P f nt ns rs c){args:JT}{h:JN}{K:AV->JN->Prop}
  (hw:qV P h.length c (fnQ rs h K) (args++List.replicate (nt-args.length) .undef) (h++List.replicate ns (.emp 0))) (ha:args.length<=nt:=by simp):z7 P f args h K:=xx hf ha hw
theorem cA{P:Program}{f:Nat}{p:Bool}{vs:JT}{d:Option Nat}{nx:Nx}{t:JT}{h:JN}{r:AV}(hc:ACalls P f (strips vs) h r h)(hf:flags vs)(hn:nx (qS t d r) h):rG P f p vs d nx t h:=qI hc hf hn
theorem cG{P:Program}{f:Nat}{p g:Bool}{vs:JT}{d:Option Nat}{nx:Nx}{t:JT}{h:JN}{r:AV}(hc:g=true->ACalls P f (strips vs) h r h)(hf:g=true->flags vs)(hn:nx (qS t d (.gd g r)) h):rH P f p g vs d nx t h:=qN (λe=>⟨hf e,hc e⟩) hn
theorem cU{P:Program}{f:Nat}{vs:JT}{d:Option Nat}{nx:Nx}{t:JT}{h:JN}{r:AV}(hc: ∀h0,ACalls P f (strips vs) h0 r h0)(hf:flags vs)(hn:nx (qS t d r) h):Jc P f vs d nx t h:=Jd hc hf hn
theorem flk{p:Prop}(h:p:=by (try intro _);repeat' first|exact Y9|refine Y8 (by first|rfl|assumption) ?_):p:=h
theorem rvk{p:Prop}(h:p:=by repeat' first|exact Pv|refine Px ?_|(simp[go_sem]<;>fail)):p:=h
theorem clz{p:Prop}(h:p:=by first|omega|(rename_i hx;revert hx;simp<;>fail)|(simp<;>fail)):p:=h
theorem tmq{p:Prop}(h:p:=by (simp only[List.replicate,go_sem,qg,qc,qb,qf];try (repeat' first|(with_reducible apply aiA)|(apply qe;omega)|(apply qd;rfl)|exact qi))):p:=h
attribute [go_sem] qp dvP mdP qY List.foldl List.replicate
theorem b7{ks:List Nat}: ∀ {h:JN} {j:Nat},j∉ks->qu j (xa ks h)=qu j h:=by
 induction ks with
 |nil=>intro h j _;rfl
 |cons k ks ih=>
  intro h j hj;simp only[List.mem_cons,not_or]at hj;show qu j (xa ks _)=_;rw[ih hj.2,qQ hj.1]
theorem Wk.freezeC(ks:List Nat){t:JT}{h:JN}{j v:Nat}{ty:TypeId}{cs:JT}(hs:ky ks h=true)(hj:qu j h=some (.mem v ty cs))(hn:j∉ks):
  Wk t h (t.map (frz (λk=>ks.contains k) h 8)) (qt j (xa ks h) (.mem v ty (cs.map (frz (λk=>ks.contains k) h 8)))):=by
 intro N w σ a H;obtain⟨σ',g1,g2,g3,g4⟩:=xb ks H.hr hs;have frzv: ∀c x,VR w σ c x->VR w σ' (frz (λk=>ks.contains k) h 8 c) x:=λc x hx=>
  dV H.hr (λb hb=>(g4 b hb).elim λj ⟨o,h1,h2,h3⟩=>⟨j,o,by simpa using h1,h2,h3⟩) (λj o hj ho=>g3 j o (by simpa using hj) ho) 8 hx
 have hjl:j<σ.length:=by rw[H.hr.len];exact zh hj
 have ho:=zg hjl;obtain⟨m1,m2,b,arr,m3,m4,m5,m6,m7,m8⟩:=H.hr.obj j _ _ hj ho;have q:=g1.recell (cs':=cs.map (frz (λk=>ks.contains k) h 8)) ((b7 hn).trans hj) (g3 j _ hn ho) m3 m4 m5 (by simpa using m6) (λi x hi hx=>m7 i x (by simpa using hi) hx) (λi c x hc hx=>by
  rw[List.getElem?_map,Option.map_eq_some_iff]at hc;obtain⟨c0,hc,rfl⟩:=hc
  exact frzv c0 x (m8 i c0 x hc hx))
 refine⟨σ',⟨q,by simp[H.sz],λi c x hc hx=> ?_,vQ g2 H.df⟩,g2⟩;rw[List.getElem?_map,Option.map_eq_some_iff]at hc;obtain⟨c0,hc,rfl⟩:=hc;exact frzv c0 x (H.tm i c0 x hc hx)
end AF
end
open Go AF
theorem tF{p:Prop}(h:p:=by apply qa;exact rvk;simp only[go_sem];exact qi):p:=h
theorem tS{p:Prop}(h:p:=by apply qh;exact rvk;simp only[go_sem];exact qi):p:=h
