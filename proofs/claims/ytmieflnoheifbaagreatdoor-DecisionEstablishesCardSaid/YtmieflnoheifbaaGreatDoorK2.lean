import Derived.RangeFuncIn
import Derived.RangeFuncLeaves
import Derived.Room.AppendOwn
import Derived.Laws.OwnMore
import Derived.WalkKit
import Derived.ProofKit
set_option linter.all false
section
namespace AF
open Go
inductive AV where
 |undef
 |bool (b:Bool)
 |int (k:IntKind) (n:Int)
 |str (s:List UInt8)
 |sl (n:Nat) (f:Nat->List AV)
 |osl (k ver sz off len:Nat)
 |agg (cs:List AV)
 |tup (vs:List AV)
 |ip (cs:List AV)
 |op (k ver off:Nat)
 |nilp
 |nl
 |el
 |fn (f:Fn) (first captured:List AV)
 |yld (k:Nat)
 |nilfn
 |ifc
 |nilif
 |gd (g:Bool) (v:AV)
 |anyb
 |mp (k ver:Nat)
 deriving Inhabited
structure LInfo where
 ps:Array Tmp
 asg:Code
 body:Code
 deriving Inhabited
inductive LS where
 |ready
 |busy
 |ret
 |exit (id:Nat)
 deriving Inhabited
inductive AObj where
 |mem (ver:Nat) (ty:TypeId) (cs:List AV)
 |emp (ver:Nat)
 |lp (s:LS) (ts:List AV) (L:LInfo)
 |map (ver:Nat) (es:List (AV×AV))
 |pin (bs:List Nat) (G:World->Prop)
 deriving Inhabited
def qDI(s:LS)(r:Loop):Prop:=
 match s with
 | .ready=>r.state= .ready∧r.pending=none
 | .busy=>r.state= .busy
 | .ret=>r.state= .done∧r.pending=some .ret
 | .exit id=>r.state= .done∧r.pending=some (.exit id)
structure OB where
 blk:Option Nat
 ver:Nat
 size:Nat
 ty:TypeId
def own(σ:List OB)(b:Nat):Prop:= ∃(k:Nat) (o:OB),σ[k]? =some o∧o.blk=some b
inductive VI (w:World) (ow:Nat->Prop):AV->Value->Prop
 |undef {v}:VI w ow .undef v
 |bool {b}:VI w ow (.bool b) (.bool b)
 |int {k n}:VI w ow (.int k n) (.int k n)
 |str {s}:VI w ow (.str s) (.string ⟨s.toArray⟩)
 |nilp:VI w ow .nilp (.pointer none)
 |nl:VI w ow .nl (.slice none 0 0)
 |el {a cap} (h:cap=0∨ ∃b off,a=(⟨b,off,none⟩:Addr)∧cap<=maxLen∧b<w.heap.size):VI w ow .el (.slice (some a) 0 cap)
 |nilfn:VI w ow .nilfn .nilFunc
 |nilif:VI w ow .nilif .nilIface
 |ifc {t v}:VI w ow .ifc (.iface t v)
 |anyb {b}:VI w ow .anyb (.bool b)
 |nilsl {f a}:VI w ow (.sl 0 f) (.slice a 0 0)
 |sl {n f} (sz b off cap:Nat) (vals:Nat->Nat->Value) (hn:n<=cap) (hm:cap<=maxLen) (hb:0<n-> ¬ow b) (hlt:b<w.heap.size)
   (hsz: ∀i,i<n->(f i).length=sz)
   (hc: ∀(i j:Nat),i<n->j<sz->w.cell? ⟨b,off+i*sz+j,none⟩=some (vals i j)) (h1: ∀(i j:Nat),i<n->j<sz->(vals i j).oneCell'=true)
   (hv: ∀(i j:Nat) c,i<n->(f i)[j]? =some c->VI w ow c (vals i j)):VI w ow (.sl n f) (.slice (some ⟨b,off,none⟩) n cap)
 |agg {cs:List AV} {vs:Array Value} (hl:vs.size=cs.length) (h1: ∀(i:Nat) x,vs[i]? =some x->x.oneCell'=true) (h: ∀(i:Nat) c x,cs[i]? =some c->vs[i]? =some x->VI w ow c x):VI w ow (.agg cs) (.agg vs)
 |tup {cs:List AV} {vs:Array Value} (hl:vs.size=cs.length) (h: ∀(i:Nat) c x,cs[i]? =some c->vs[i]? =some x->VI w ow c x):VI w ow (.tup cs) (.tuple vs)
 |ip {cs:List AV} (b off:Nat) (vals:Nat->Value) (hb: ¬ow b) (hlt:b<w.heap.size)
   (hc: ∀(j:Nat),j<cs.length->w.cell? ⟨b,off+j,none⟩=some (vals j)) (h1: ∀(j:Nat),j<cs.length->(vals j).oneCell'=true)
   (hv: ∀(j:Nat) c,cs[j]? =some c->VI w ow c (vals j)):VI w ow (.ip cs) (.pointer (some ⟨b,off,none⟩))
 |fn {f:Fn} {cs ds:List AV} {vs us:Array Value} (hl:vs.size=cs.length) (hl':us.size=ds.length)
   (h: ∀(i:Nat) c x,cs[i]? =some c->vs[i]? =some x->VI w ow c x) (h': ∀(i:Nat) c x,ds[i]? =some c->us[i]? =some x->VI w ow c x):
   VI w ow (.fn f cs ds) (.func f vs us)
theorem qaF{w:World}{b j:Nat}{d:Option (List Deferred)}(h:w.heap[b]? =some (.deferred d))(v:Value):w.cell? ⟨b,j,none⟩≠some v:=by
 intro hc;simp[World.cell?,h]at hc
theorem VI.mono'{w w':World}{ow ow':Nat->Prop}(hk: ∀b,b<w.heap.size-> ¬ow b->w'.heap[b]? =w.heap[b]? ∨ ∃d,w.heap[b]? =some (.deferred d))
  (hs:w.heap.size<=w'.heap.size) (ho: ∀b,ow' b->ow b∨w.heap.size<=b) {a:AV} {v:Value} (h:VI w ow a v):VI w' ow' a v:=by
 induction h with
 |undef=>exact .undef
 |bool=>exact .bool
 |int=>exact .int
 |str=>exact .str
 |nilp=>exact .nilp
 |nl=>exact .nl
 |el h=>exact .el (h.imp id λ⟨b,off,e,g1,g2⟩=>⟨b,off,e,g1,Nat.lt_of_lt_of_le g2 hs⟩)
 |nilfn=>exact .nilfn
 |nilif=>exact .nilif
 |ifc=>exact .ifc
 |anyb=>exact .anyb
 |nilsl=>exact .nilsl
 |sl sz b off cap vals hn hm hb hlt hsz hc h1 hv ih=>
  refine .sl sz b off cap vals hn hm (λh0 hw=> ?_) (by omega) hsz (λi j hi hj=> ?_) h1 ih
  ·rcases ho b hw with h|h
   ·exact hb h0 h
   ·omega
  ·rw[<-hc i j hi hj];rcases hk b hlt (hb (by omega))with h|⟨d,h⟩
   ·exact World.cell?_of_block h
   ·exact absurd (hc i j hi hj) (qaF h _)
 |agg hl h1 h ih=>exact .agg hl h1 ih
 |tup hl h ih=>exact .tup hl ih
 | @ip cs b off vals hb hlt hc h1 hv ih=>
  refine .ip b off vals (λhw=> ?_) (by omega) (λj hj=> ?_) h1 ih
  ·rcases ho b hw with h|h
   ·exact hb h
   ·omega
  ·rw[<-hc j hj];rcases hk b hlt hb with h|⟨d,h⟩
   ·exact World.cell?_of_block h
   ·exact absurd (hc j hj) (qaF h _)
 |fn hl hl' h h' ih ih'=>exact .fn hl hl' ih ih'
theorem VI.mono{w w':World}{ow ow':Nat->Prop}(hk: ∀b,b<w.heap.size-> ¬ow b->w'.heap[b]? =w.heap[b]?)
  (hs:w.heap.size<=w'.heap.size) (ho: ∀b,ow' b->ow b∨w.heap.size<=b) {a:AV} {v:Value} (h:VI w ow a v):VI w' ow' a v:=by
 induction h with
 |undef=>exact .undef
 |bool=>exact .bool
 |int=>exact .int
 |str=>exact .str
 |nilp=>exact .nilp
 |nl=>exact .nl
 |el h=>exact .el (h.imp id λ⟨b,off,e,g1,g2⟩=>⟨b,off,e,g1,Nat.lt_of_lt_of_le g2 hs⟩)
 |nilfn=>exact .nilfn
 |nilif=>exact .nilif
 |ifc=>exact .ifc
 |anyb=>exact .anyb
 |nilsl=>exact .nilsl
 |sl sz b off cap vals hn hm hb hlt hsz hc h1 hv ih=>
  refine .sl sz b off cap vals hn hm (λh0 hw=> ?_) (by omega) hsz (λi j hi hj=> ?_) h1 ih
  ·rcases ho b hw with h|h
   ·exact hb h0 h
   ·omega
  ·rw[<-hc i j hi hj];exact World.cell?_of_block (hk b hlt (hb (by omega)))
 |agg hl h1 h ih=>exact .agg hl h1 ih
 |tup hl h ih=>exact .tup hl ih
 |ip b off vals hb hlt hc h1 hv ih=>
  refine .ip b off vals (λhw=> ?_) (by omega) (λj hj=> ?_) h1 ih
  ·rcases ho b hw with h|h
   ·exact hb h
   ·omega
  ·rw[<-hc j hj];exact World.cell?_of_block (hk b hlt hb)
 |fn hl hl' h h' ih ih'=>exact .fn hl hl' ih ih'
inductive VR (w:World) (σ:List OB):AV->Value->Prop
 |imm {a v} (h:VI w (own σ) a v):VR w σ a v
 |osl {k ver sz off len v} (o:OB) (ho:σ[k]? =some o) (hs: ∃a n c,v=Value.slice a n c) (hv:ver<=o.ver)
   (h:o.ver=ver->(o.blk=none∧off=0∧len=0∧v= .slice none 0 0)∨
    (∃b cap,o.blk=some b∧v= .slice (some ⟨b,off,none⟩) len cap∧len<=cap∧cap<=maxLen∧off+cap*sz=o.size)):VR w σ (.osl k ver sz off len) v
 |op {k ver off v} (o:OB) (ho:σ[k]? =some o) (hs: ∃a,v=Value.pointer a) (hv:ver<=o.ver) (h:o.ver=ver-> ∃b,o.blk=some b∧v= .pointer (some ⟨b,off,none⟩)):VR w σ (.op k ver off) v
 |mp {k ver v} (o:OB) (ho:σ[k]? =some o) (hs: ∃a,v=Value.map a) (hv:ver<=o.ver) (h:o.ver=ver-> ∃b,o.blk=some b∧v= .map (some b)):VR w σ (.mp k ver) v
 |yld {k:Nat} {v} (o:OB) (ho:σ[k]? =some o) (hs: ∃b,v=Value.func (.yield b) #[] #[]) (h:o.ver=0-> ∃b,o.blk=some b∧v= .func (.yield b) #[] #[]):VR w σ (.yld k) v
 |agg {cs:List AV} {vs:Array Value} (hl:vs.size=cs.length) (h1: ∀(i:Nat) x,vs[i]? =some x->x.oneCell'=true) (h: ∀(i:Nat) c x,cs[i]? =some c->vs[i]? =some x->VR w σ c x):VR w σ (.agg cs) (.agg vs)
 |tup {cs:List AV} {vs:Array Value} (hl:vs.size=cs.length) (h: ∀(i:Nat) c x,cs[i]? =some c->vs[i]? =some x->VR w σ c x):VR w σ (.tup cs) (.tuple vs)
 |fn {f:Fn} {cs ds:List AV} {vs us:Array Value} (hl:vs.size=cs.length) (hl':us.size=ds.length)
   (h: ∀(i:Nat) c x,cs[i]? =some c->vs[i]? =some x->VR w σ c x) (h': ∀(i:Nat) c x,ds[i]? =some c->us[i]? =some x->VR w σ c x):
   VR w σ (.fn f cs ds) (.func f vs us)
 |gd {g v x} (h:g=true->VR w σ v x) (h':g=false->x=Go.undef):VR w σ (.gd g v) x
structure Ext (w:World) (σ:List OB) (w':World) (σ':List OB):Prop where
 os:w'.os=w.os
 tape:w'.tape=w.tape
 output:w'.output=w.output
 size:w.heap.size<=w'.heap.size
 keep: ∀b,b<w.heap.size-> ¬own σ b->w'.heap[b]? =w.heap[b]?
 own: ∀b,own σ' b->own σ b∨w.heap.size<=b
 obj: ∀(k:Nat) (o:OB),σ[k]? =some o-> ∃o':OB,σ'[k]? =some o'∧o.ver<=o'.ver∧(o'.ver=o.ver->o'=o)
 loops: ∀(b:Nat) r,w.heap[b]? =some (.loop r)-> ∃r',w'.heap[b]? =some (.loop r')
theorem Ext.refl(w:World)(σ:List OB):Ext w σ w σ:=
 ⟨rfl,rfl,rfl,Nat.le_refl _,λ_ _ _=>rfl,λ_ h=> .inl h,λ_ o h=>⟨o,h,Nat.le_refl _,λ_=>rfl⟩,λ_ r h=>⟨r,h⟩⟩
theorem Ext.trans{w w' w'':World}{σ σ' σ'':List OB}(h:Ext w σ w' σ')(h':Ext w' σ' w'' σ''):Ext w σ w'' σ'' where
 os:=h'.os.trans h.os
 tape:=h'.tape.trans h.tape
 output:=h'.output.trans h.output
 size:=Nat.le_trans h.size h'.size
 keep b hb ho:=by
  rw[h'.keep b (Nat.lt_of_lt_of_le hb h.size) (λhw=>(h.own b hw).elim ho (λhx=>by omega)),h.keep b hb ho]
 loops b r hb:=by
  obtain⟨r',h1⟩:=h.loops b r hb;exact h'.loops b r' h1
 own b hb:=by
  rcases h'.own b hb with h1|h1
  ·exact h.own b h1
  ·exact .inr (Nat.le_trans h.size h1)
 obj k o hk:=by
  obtain⟨o',h1,h2,h3⟩:=h.obj k o hk;obtain⟨o'',g1,g2,g3⟩:=h'.obj k o' h1;refine⟨o'',g1,Nat.le_trans h2 g2,λe=> ?_⟩;have e1:o'.ver=o.ver:=by omega
  have e2:=h3 e1;rw[g3 (by omega),e2]
theorem VI.ext{w w':World}{σ σ':List OB}(h:Ext w σ w' σ'){a:AV}{v:Value}(hv:VI w (AF.own σ) a v):VI w' (AF.own σ') a v:=
 hv.mono h.keep h.size h.own
theorem VR.ext{w w':World}{σ σ':List OB}(h:Ext w σ w' σ'){a:AV}{v:Value}(hv:VR w σ a v):VR w' σ' a v:=by
 induction hv with
 |imm hi=>exact .imm (hi.ext h)
 |osl o ho hs hv hh=>
  obtain⟨o',h1,h2,h3⟩:=h.obj _ o ho;refine .osl o' h1 hs (by omega) (λe=> ?_);have e1:=h3 (by omega);subst e1;exact hh e
 |op o ho hs hv hh=>
  obtain⟨o',h1,h2,h3⟩:=h.obj _ o ho;refine .op o' h1 hs (by omega) (λe=> ?_);have e1:=h3 (by omega);subst e1;exact hh e
 |mp o ho hs hv hh=>
  obtain⟨o',h1,h2,h3⟩:=h.obj _ o ho;refine .mp o' h1 hs (by omega) (λe=> ?_);have e1:=h3 (by omega);subst e1;exact hh e
 |yld o ho hs hh=>
  obtain⟨o',h1,h2,h3⟩:=h.obj _ o ho;refine .yld o' h1 hs (λe=> ?_);have e1:=h3 (by omega);subst e1;exact hh e
 |agg hl h1 h ih=>exact .agg hl h1 ih
 |tup hl h ih=>exact .tup hl ih
 |fn hl hl' h h' ih ih'=>exact .fn hl hl' ih ih'
 |gd h h' ih=>exact .gd ih h'
end AF
end
section
namespace AF
open Go
theorem qAy{w:World}{σ:List OB}(h: ∀(k:Nat) (o:OB) (b:Nat),σ[k]? =some o->o.blk=some b->b<w.heap.size){b:Nat}(hb:own σ b):b<w.heap.size:=by
 obtain⟨k,o,h1,h2⟩:=hb;exact h k o b h1 h2
def qbI:Nat:=4611686018427387904
def qFh(ty T:TypeId)(fz:Nat×Nat)(n:Nat):Prop:=(ty=T∧fz=(0,0))∨(ty=T+qbI∧fz=(n,n+1))
def Blk(w:World)(b:Nat)(arr:Array Value)(ty:TypeId):Prop:= ∃(T:TypeId) (fz:Nat×Nat),qFh ty T fz arr.size∧w.heap[b]? =some (.cells arr T fz)
theorem Blk.mk{w:World}{b:Nat}{arr:Array Value}{ty:TypeId}(h:w.heap[b]? =some (.cells arr ty (0,0))):Blk w b arr ty:=⟨ty,(0,0),.inl ⟨rfl,rfl⟩,h⟩
theorem Blk.same{w w':World}{b:Nat}{arr:Array Value}{ty:TypeId}(h:Blk w b arr ty)(e:w'.heap[b]? =w.heap[b]?):Blk w' b arr ty:=by
 obtain⟨T,fz,h1,h2⟩:=h;exact⟨T,fz,h1,e.trans h2⟩
theorem Blk.plain{w:World}{b:Nat}{arr:Array Value}{ty:TypeId}(h:Blk w b arr ty)(hl:ty<qbI):w.heap[b]? =some (.cells arr ty (0,0)):=by
 obtain⟨T,fz,⟨rfl,rfl⟩|⟨rfl,_⟩,h2⟩:=h
 ·exact h2
 ·exact absurd hl (Nat.not_lt.2 (Nat.le_add_left _ _))
theorem Blk.lt{w:World}{b:Nat}{arr:Array Value}{ty:TypeId}(h:Blk w b arr ty):b<w.heap.size:=by
 obtain⟨T,fz,_,h2⟩:=h;exact (Array.getElem?_eq_some_iff.1 h2).1
theorem Blk.noloop{w:World}{b:Nat}{arr:Array Value}{ty:TypeId}(h:Blk w b arr ty)(r:Loop):w.heap[b]? ≠some (.loop r):=by
 obtain⟨T,fz,_,h2⟩:=h;rw[h2];simp
def qFV:AV->Option Value
 | .str s=>some (.string ⟨s.toArray⟩)
 | .int k n=>some (.int k n)
 | .bool b=>some (.bool b)
 |_=>none
def MR(w:World)(σ:List OB)(es:List (AV×AV))(ms:Array MapEntry):Prop:=
 ms.size=es.length∧ ∀(i:Nat) p m,es[i]? =some p->ms[i]? =some m->qFV p.1=some m.key∧VR w σ p.2 m.val
def BR(ms:Array MapEntry)(clock:Nat):Prop:=clock=ms.size∧ ∀(i:Nat) m,ms[i]? =some m->m.born=i
def OR(w:World)(σ:List OB)(a:AObj)(o:OB):Prop:=
 match a with
 | .mem ver ty cs=>o.ver=ver∧o.ty=ty∧ ∃b arr,o.blk=some b∧Blk w b arr o.ty∧arr.size=o.size∧cs.length<=arr.size∧(∀(i:Nat) x,i<cs.length->arr[i]? =some x->x.oneCell'=true)∧
   ∀(i:Nat) c x,cs[i]? =some c->arr[i]? =some x->VR w σ c x
 | .emp ver=>o.ver=ver∧o.blk=none
 | .lp s ts L=>o.ver=0∧ ∃b r,o.blk=some b∧w.heap[b]? =some (.loop r)∧qDI s r∧r.params=L.ps∧r.assign=L.asg∧r.body=L.body∧
   r.tmps.size=ts.length∧ ∀(i:Nat) c x,ts[i]? =some c->r.tmps[i]? =some x->VR w σ c x
 | .map ver es=>o.ver=ver∧ ∃b ms clock,o.blk=some b∧w.heap[b]? =some (.map ms clock)∧MR w σ es ms∧BR ms clock
 | .pin bs G=>o.ver=0∧o.blk=none∧(∀b,b∈bs-> ¬own σ b∧ ∃arr T fz,w.heap[b]? =some (.cells arr T fz))∧ ∀w':World,(∀b,b∈bs->w'.heap[b]? =w.heap[b]?)->G w'
structure HR (w:World) (σ:List OB) (h:List AObj):Prop where
 len:σ.length=h.length
 inj: ∀(i j:Nat) oi oj b,σ[i]? =some oi->σ[j]? =some oj->oi.blk=some b->oj.blk=some b->i=j
 lt: ∀(k:Nat) (o:OB) (b:Nat),σ[k]? =some o->o.blk=some b->b<w.heap.size
 obj: ∀(k:Nat) a o,h[k]? =some a->σ[k]? =some o->OR w σ a o
theorem OR.ext{w w':World}{σ σ':List OB}{a:AObj}{o:OB}(h:Ext w σ w' σ')(hk: ∀b,o.blk=some b->w'.heap[b]? =w.heap[b]?)(ho:OR w σ a o):OR w' σ' a o:=by
 cases a with
 |mem ver ty cs=>
  obtain⟨h1,ht,b,arr,h2,h3,h4,h5,h7,h6⟩:=ho;exact⟨h1,ht,b,arr,h2,h3.same (hk b h2),h4,h5,h7,λi c x hc hx=>(h6 i c x hc hx).ext h⟩
 |emp ver=>exact ho
 |lp s ts L=>
  obtain⟨h1,b,r,h2,h3,g1,g2,g3,g4,g5,g6⟩:=ho;exact⟨h1,b,r,h2,(hk b h2).trans h3,g1,g2,g3,g4,g5,λi c x hc hx=>(g6 i c x hc hx).ext h⟩
 |map ver es=>
  obtain⟨h1,b,ms,clock,h2,h3,⟨h4,h5⟩,h6⟩:=ho;exact⟨h1,b,ms,clock,h2,(hk b h2).trans h3,⟨h4,λi p m hp hm=>⟨(h5 i p m hp hm).1,(h5 i p m hp hm).2.ext h⟩⟩,h6⟩
 |pin bs G=>
  obtain⟨h1,h2,h3,h4⟩:=ho;have hs: ∀b,b∈bs->w'.heap[b]? =w.heap[b]? :=λb hb=>by
   obtain⟨h5,arr,T,fz,h6⟩:=h3 b hb;exact h.keep b (Array.getElem?_eq_some_iff.1 h6).1 h5
  refine⟨h1,h2,λb hb=> ?_,λw2 h7=>h4 w2 (λb hb=>(h7 b hb).trans (hs b hb))⟩;obtain⟨h5,arr,T,fz,h6⟩:=h3 b hb;exact⟨λhw=>(h.own b hw).elim h5 (λhx=>by have:=(Array.getElem?_eq_some_iff.1 h6).1;omega),arr,T,fz,(hs b hb).trans h6⟩
theorem HR.update{w w':World}{σ:List OB}{h:List AObj}(H:HR w σ h){k:Nat}{o o':OB}{a':AObj}(hk:σ[k]? =some o)
  (hg:w.grownBy w' o.blk) (hv:o.ver<=o'.ver) (hs:o'.ver=o.ver->o'=o)
  (hb: ∀b,o'.blk=some b->(o.blk=some b∨w.heap.size<=b)∧b<w'.heap.size)
  (hlp: ∀(b:Nat) r,o.blk=some b->w.heap[b]? =some (.loop r)-> ∃r',w'.heap[b]? =some (.loop r'))
  (ho:Ext w σ w' (σ.set k o')->OR w' (σ.set k o') a' o'):HR w' (σ.set k o') (h.set k a')∧Ext w σ w' (σ.set k o'):=by
 have hkl:k<σ.length:=(List.getElem?_eq_some_iff.1 hk).1;have hget: ∀(j:Nat) (x:OB),(σ.set k o')[j]? =some x->(j=k∧x=o')∨(j≠k∧σ[j]? =some x):=by
  intro j x hj;rw[List.getElem?_set]at hj;split at hj
  ·rename_i e;subst e;simp[hkl]at hj;exact .inl ⟨rfl,hj.symm⟩
  ·rename_i e;exact .inr ⟨λe'=>e e'.symm,hj⟩
 have hown: ∀b,own (σ.set k o') b->own σ b∨w.heap.size<=b:=by
  rintro b ⟨j,x,hj,hx⟩;rcases hget j x hj with⟨rfl,rfl⟩|⟨_,hj'⟩
  ·rcases (hb b hx).1 with h1|h1
   ·exact .inl ⟨_,o,hk,h1⟩
   ·exact .inr h1
  ·exact .inl ⟨j,x,hj',hx⟩
 have hext:Ext w σ w' (σ.set k o'):=by
  refine⟨hg.os,hg.tape,hg.output,hg.size,λb hb' ho'=>hg.block b hb' (λe=>ho' ⟨k,o,hk,e.symm⟩),hown,λj x hj=> ?_,λb r hr=> ?_⟩
  rotate_left
  ·by_cases e:o.blk=some b
   ·exact hlp b r e hr
   ·exact⟨r,(hg.block b (Array.getElem?_eq_some_iff.1 hr).1 (λh=>e h.symm)).trans hr⟩
  by_cases e:j=k
  ·subst e;rw[hk]at hj;cases hj;exact⟨o',by simp[hkl],hv,hs⟩
  ·exact⟨x,by rw[List.getElem?_set_ne (λe'=>e e'.symm)];exact hj,Nat.le_refl _,λ_=>rfl⟩
 refine⟨⟨by simp[H.len],?_,?_,?_⟩,hext⟩
 ·intro i j oi oj b hi hj bi bj;rcases hget i oi hi with⟨rfl,rfl⟩|⟨ni,hi'⟩<;>rcases hget j oj hj with⟨rfl,rfl⟩|⟨nj,hj'⟩
  ·rfl
  ·rcases (hb b bi).1 with h1|h1
   ·exact H.inj _ _ _ _ b hk hj' h1 bj
   ·have:=H.lt j oj b hj' bj;omega
  ·rcases (hb b bj).1 with h1|h1
   ·exact H.inj _ _ _ _ b hi' hk bi h1
   ·have:=H.lt i oi b hi' bi;omega
  ·exact H.inj i j oi oj b hi' hj' bi bj
 ·intro j x b hj hx;rcases hget j x hj with⟨rfl,rfl⟩|⟨_,hj'⟩
  ·exact (hb b hx).2
  ·exact Nat.lt_of_lt_of_le (H.lt j x b hj' hx) hg.size
 ·intro j a x ha hj;rcases hget j x hj with⟨rfl,rfl⟩|⟨nj,hj'⟩
  ·have hkh:j<h.length:=by rw[<-H.len];exact hkl
   simp[hkh]at ha;subst ha;exact ho hext
  ·rw[List.getElem?_set_ne (λe=>nj e.symm)]at ha;refine (H.obj j a x ha hj').ext hext (λb hx=>hg.block b (H.lt j x b hj' hx) (λe=>nj (H.inj j k x o b hj' hk hx e.symm)))
theorem HR.grow{w w':World}{σ:List OB}{h:List AObj}(H:HR w σ h)(hg:w.grownBy w' none):HR w' σ h∧Ext w σ w' σ:=by
 have hext:Ext w σ w' σ:=⟨hg.os,hg.tape,hg.output,hg.size,λb hb _=>hg.block b hb (by simp),λ_ hb=> .inl hb,λ_ o ho=>⟨o,ho,Nat.le_refl _,λ_=>rfl⟩,λb r hr=>⟨r,(hg.block b (Array.getElem?_eq_some_iff.1 hr).1 (by simp)).trans hr⟩⟩
 refine⟨⟨H.len,H.inj,λk o b hk hb=>Nat.lt_of_lt_of_le (H.lt k o b hk hb) hg.size,λk a o ha ho=> ?_⟩,hext⟩;exact (H.obj k a o ha ho).ext hext (λb hb=>hg.block b (H.lt k o b ho hb) (by simp))
theorem HR.kill{w:World}{σ:List OB}{h:List AObj}(H:HR w σ h){k:Nat}{o:OB}(hk:σ[k]? =some o):
  HR w (σ.set k { o with blk:=none,ver:=o.ver+1 }) (h.set k (.emp (o.ver+1)))∧Ext w σ w (σ.set k { o with blk:=none,ver:=o.ver+1 }):=
 H.update (w':=w) hk ⟨rfl,rfl,rfl,Nat.le_refl _,λ_ _ _=>rfl⟩ (by simp) (by simp) (by simp) (λ_ r _ hr=>⟨r,hr⟩) (λ_=>⟨rfl,rfl⟩)
theorem HR.noloop{w:World}{σ:List OB}{h:List AObj}(H:HR w σ h){k:Nat}{o:OB}(hk:σ[k]? =some o)(ho: ∀s ts L,h[k]? ≠some (.lp s ts L))(b:Nat)(r:Loop)(hb:o.blk=some b):w.heap[b]? ≠some (.loop r):=by
 have hkl:k<h.length:=by rw[<-H.len];exact (List.getElem?_eq_some_iff.1 hk).1
 have ha:h[k]? =some h[k]:=List.getElem?_eq_getElem hkl
 have:=H.obj k _ o ha hk
 cases hx:h[k]with
 |mem ver ty cs=>
  rw[hx]at this;obtain⟨_,_,b',arr,h2,h3,_⟩:=this;rw[hb]at h2;cases h2;exact h3.noloop r
 |emp ver=>
  rw[hx]at this;rw[this.2]at hb;cases hb
 |lp s ts L=>
  rw[hx]at ha;exact absurd ha (ho s ts L)
 |map ver es=>
  rw[hx]at this;obtain⟨_,b',ms,clock,h2,h3,_⟩:=this;rw[hb]at h2;cases h2;rw[h3];simp
 |pin bs G=>
  rw[hx]at this;rw[this.2.1]at hb;cases hb
def VRs(w:World)(σ:List OB)(vs:List AV)(xs:List Value):Prop:=
 xs.length=vs.length∧ ∀(i:Nat) c x,vs[i]? =some c->xs[i]? =some x->VR w σ c x
end AF
end
section
namespace AF
open Go
inductive X where
 |t (n:Nat)
 |c (v:AV)
 deriving Inhabited
inductive NK where
 |ptr|func|iface|slice
 deriving DecidableEq, Inhabited
inductive AK where
 |int|bool|str
 deriving DecidableEq, Inhabited
inductive R where
 --these look at their operands alone
 |mv
 |pick
 |bin (op:BinOp)
 |bool (neq:Bool)
 |un (op:UnOp)
 |conv (k:IntKind)
 |isnil (k:NK) (neq:Bool)
 |aeq (ks:List AK) (neq:Bool)
 |fld (off:Nat) (n:Option Nat)
 |ext (i:Nat)
 |build (z:List AV) (parts:List (Nat×Nat))
 |mkfn (f:Fn) (first:Nat)
 |slen
 |sidx
 |aidx (len sz:Nat) (n:Option Nat)
 |sslc (lo hi:Bool)
 |mm (mx:Bool)
 |idxI (sz:Nat)
 |fldI (off:Nat)
 |loadI (n:Option Nat)
 --these look at the memory too
 |len
 |idxA (sz:Nat)
 |idxArr (n sz:Nat)
 |fldA (off:Nat)
 |load (n:Option Nat)
 |nilchk
 |slc (sz:Nat) (lo hi:Bool)
 |b2s
 |cap
 --these change it
 |nilo (j sz:Nat) (ty:TypeId)
 |alloc (j:Nat) (ty:TypeId) (z:List AV)
 |box (j:Nat) (ty:TypeId)
 |store (n:Nat)
 |mkslc (j sz:Nat) (ty:TypeId) (z:List AV) (bytes:Nat)
 |bslc (j sz n:Nat) (ty:TypeId) (z:List AV) (parts:List (Nat×Nat))
 |app (j sz:Nat) (ty:TypeId) (bytes:Nat)
 |apps (j:Nat) (ty:TypeId)
 |cpy (sz:Nat)
 |s2b
 |gix (g n sz:Nat)
 |s2bo (j:Nat) (ty:TypeId)
 |call (f:FuncId) (pure:Bool)
 |callv
 deriving Inhabited
structure RO where
 dst:Option Nat
 g:Option (Nat×Bool)
 op:R
 xs:List X
 deriving Inhabited
structure St where
 t:List AV
 h:List AObj
def zU:Nat->List AV->AV
 |_,[]=> .undef
 |0,a::_=>a
 |n+1,_::r=>zU n r
def jv:Nat->List AV->AV->List AV
 |_,[],_=> []
 |0,_::r,v=>v::r
 |n+1,a::r,v=>a::jv n r v
def qu(k:Nat)(h:List AObj):Option AObj:=h[k]?
def qt(k:Nat)(h:List AObj)(o:AObj):List AObj:=h.set k o
def AV.strip:AV->AV
 | .gd _ v=>v
 |v=>v
def AV.flag:AV->Bool
 | .gd g _=>g
 |_=>true
def X.ev(st:St):X->AV
 | .t n=>zU n st.t
 | .c v=>v
def St.put(st:St)(d:Option Nat)(v:AV):St:=
 match d with
 |some d=> { st with t:=jv d st.t v }
 |none=>st
def AV.cells:AV->List AV
 | .agg cs=>cs
 |v=> [v]
def AV.solid:AV->Bool
 | .undef| .gd .. | .tup _=>false
 |_=>true
def cut(l:List AV)(off:Nat):Option Nat->AV
 |none=>(l[off]?).getD .undef
 |some n=> .agg ((l.drop off).take n)
def kv(l:List AV)(off:Nat):Option Nat->Prop
 |none=>off<l.length
 |some n=>off+n<=l.length
def qdC:AV->Int
 | .int _ n=>n
 |_=>0
def qaB:AV->Bool
 | .bool b=>b
 |_=>false
def UJ(op:BinOp)(x y:AV):AV:=
 match x,y with
 | .int k a,.int _ b=>
  match op with
  | .add=> .int k (k.wrap (a+b))
  | .sub=> .int k (k.wrap (a-b))
  | .mul=> .int k (k.wrap (a*b))
  | .quo=> .int k (k.wrap (a.tdiv b))
  | .rem=> .int k (a.tmod b)
  | .and=> .int k (k.wrap (BitVec.ofInt k.bits a&&&BitVec.ofInt k.bits b).toNat)
  | .or=> .int k (k.wrap (BitVec.ofInt k.bits a|||BitVec.ofInt k.bits b).toNat)
  | .xor=> .int k (k.wrap (BitVec.ofInt k.bits a^^^BitVec.ofInt k.bits b).toNat)
  | .andNot=> .int k (k.wrap (BitVec.ofInt k.bits a&&& ~~~ BitVec.ofInt k.bits b).toNat)
  | .shl=> .int k (k.wrap (a*2^(min b.toNat k.bits)))
  | .shr=> .int k (a.fdiv (2^(min b.toNat k.bits)))
  | .eql=> .bool (decide (a=b))
  | .neq=> .bool (!decide (a=b))
  | .lss=> .bool (decide (a<b))
  | .leq=> .bool (decide (a<=b))
  | .gtr=> .bool (decide (b<a))
  | .geq=> .bool (decide (b<=a))
 | .str s,.str u=>
  match op with
  | .add=> .str (s++u)
  | .eql=> .bool (decide (s=u))
  | .neq=> .bool (!decide (s=u))
  | .lss=> .bool (Op.bytesLess s u)
  | .leq=> .bool (Op.bytesLess s u||decide (s=u))
  | .gtr=> .bool (!(Op.bytesLess s u||decide (s=u)))
  | .geq=> .bool (!Op.bytesLess s u)
  |_=> .undef
 |_,_=> .undef
def UN(op:BinOp)(x y:AV):Prop:=
 match x,y with
 | .int k _,.int k' b=>
  match op with
  | .quo| .rem=>k=k'∧b≠0
  | .shl| .shr=>0<=b
  |_=>k=k'
 | .str s,.str u=>
  match op with
  | .add=>s.length+u.length<=9223372036854775807
  | .eql| .neq| .lss| .leq| .gtr| .geq=>True
  |_=>False
 |_,_=>False
def qbz:AK->AV->AV->Option Bool
 | .int,.int k a,.int k' b=>if k=k' then some (decide (a=b)) else none
 | .bool,.bool a,.bool b=>some (a==b)
 | .str,.str a,.str b=>some (decide (a=b))
 |_,_,_=>none
def zO:List AK->List AV->List AV->Option Bool
 | [],[],[]=>some true
 |k::l,a::r,b::s=>match qbz k a b,zO l r s with
  |some x,some y=>some (x&&y)
  |_,_=>none
 |_,_,_=>none
def zI:NK->AV->Option Bool
 | .ptr,.nilp=>some true
 | .ptr,.ip _=>some false
 | .func,.nilfn=>some true
 | .func,.fn .. =>some false
 | .iface,.nilif=>some true
 | .iface,.ifc=>some false
 | .slice,.nl=>some true
 | .slice,.el=>some false
 |_,_=>none
def UR:List AV->List (Nat×Nat)->List AV->List AV
 |z,(off,n)::ps,v::vs=>UR (z.take off++v.cells++z.drop (off+n)) ps vs
 |z,_,_=>z
def UE(len:Nat):List (Nat×Nat)->List AV->Prop
 | [],[]=>True
 |(off,n)::ps,v::vs=>v.solid=true∧v.cells.length=n∧off+n<=len∧UE len ps vs
 |_,_=>False
def qcs:List AV->Prop
 | []=>True
 | .int _ _::r=>qcs r
 |_=>False
def loB(lo:Bool):List AV->Int
 | .int _ n::_=>if lo then n else 0
 |_=>0
def hiB(lo hi:Bool)(len:Int):List AV->Int
 | [.int _ _,.int _ m]=>if lo&&hi then m else len
 | [.int _ m]=>if hi&& !lo then m else len
 |_=>len
def valP:R->List AV->AV
 | .mv,[x]=>x
 | .bin op,[x,y]=>UJ op x y
 | .bool n,[x,y]=> .bool (n !=(qaB x==qaB y))
 | .un .not,[x]=> .bool (!qaB x)
 | .un .neg,[.int k n]=> .int k (k.wrap (0-n))
 | .conv k,[.int _ n]=> .int k (k.wrap n)
 | .isnil .slice n,[.sl m _]=>if m=0 then .anyb else .bool (n !=false)
 | .isnil k n,[x]=> .bool (n !=(zI k x).getD false)
 | .aeq ks n,[.agg a,.agg b]=> .bool (n !=(zO ks a b).getD false)
 | .fld off n,[.agg cs]=>cut cs off n
 | .ext i,[.tup vs]=>(vs[i]?).getD .undef
 | .build z ps,vs=> .agg (UR z ps vs)
 | .mkfn f n,vs=> .fn f (vs.take n) (vs.drop n)
 | .slen,[.str s]=> .int .i64 s.length
 | .sidx,[.str s,.int _ i]=> .int .u8 ((s[i.toNat]?).getD 0).toNat
 | .aidx _ sz n,[.agg cs,.int _ i]=>cut cs (i.toNat*sz) n
 | .sslc lo hi,.str s::bs=> .str ((s.drop (loB lo bs).toNat).take ((hiB lo hi s.length bs).toNat-(loB lo bs).toNat))
 | .mm mx,vs=>match vs with
  | .int k n::r=> .int k (r.foldl (λa v=>if mx then max a (qdC v) else min a (qdC v)) n)
  |_=> .undef
 | .idxI _,[.sl _ f,.int _ i]=> .ip (f i.toNat)
 | .fldI off,[.ip cs]=> .ip (cs.drop off)
 | .loadI n,[.ip cs]=>cut cs 0 n
 |_,_=> .undef
def okP:R->List AV->Prop
 | .mv,[_]=>True
 | .bin op,[x,y]=>UN op x y
 | .bool _,[.bool _,.bool _]=>True
 | .un .not,[.bool _]=>True
 | .un .neg,[.int _ _]=>True
 | .conv _,[.int _ _]=>True
 | .isnil .slice _,[.sl _ _]=>True
 | .isnil k _,[x]=>(zI k x).isSome=true
 | .aeq ks _,[.agg a,.agg b]=>(zO ks a b).isSome=true
 | .fld off n,[.agg cs]=>kv cs off n
 | .ext i,[.tup vs]=>i<vs.length
 | .build z ps,vs=>UE z.length ps vs
 | .mkfn _ n,vs=>n<=vs.length
 | .slen,[.str _]=>True
 | .sidx,[.str s,.int _ i]=>0<=i∧i<s.length
 | .aidx len sz n,[.agg cs,.int _ i]=>(0<=i∧i<len)∧kv cs (i.toNat*sz) n
 | .sslc lo hi,.str s::bs=>qcs bs∧bs.length=(if lo then 1 else 0)+(if hi then 1 else 0)∧0<=loB lo bs∧loB lo bs<=hiB lo hi s.length bs∧hiB lo hi s.length bs<=s.length
 | .mm _,vs=>qcs vs∧vs≠ []
 | .idxI sz,[.sl n f,.int _ i]=>(0<=i∧i<n)∧(f i.toNat).length=sz
 | .fldI off,[.ip cs]=>off<cs.length
 | .loadI n,[.ip cs]=>kv cs 0 n
 |_,_=>False
def cellsOf(h:List AObj)(k ver:Nat):Option (List AV):=
 match qu k h with
 |some (.mem v _ cs)=>if v=ver then some cs else none
 |_=>none
def qH(h:List AObj)(k ver:Nat):Bool:=
 match qu k h with
 |some (.mem v _ _)=>v==ver
 |some (.emp v)=>v==ver
 |_=>false
def qaD:AV->UInt8
 | .int _ n=>UInt8.ofNat n.toNat
 |_=>0
def qc5:AV->Prop
 | .int .u8 n=>0<=n∧n<=255
 |_=>False
def qtO:List AV->Prop
 | [c]=>qc5 c
 |_=>False
def qfu:List AV->UInt8
 |c::_=>qaD c
 | []=>0
def valL(h:List AObj):R->List AV->AV
 | .b2s,[.sl n f]=> .str ((List.range n).map λi=>qfu (f i))
 | .b2s,[.nl]=> .str []
 | .b2s,[.osl k ver _ off n]=> .str (((((cellsOf h k ver).getD []).drop off).take n).map qaD)
 | .len,[.sl n _]=> .int .i64 n
 | .len,[.nl]=> .int .i64 0
 | .len,[.el]=> .int .i64 0
 | .len,[.osl _ _ _ _ n]=> .int .i64 n
 | .cap,[.nl]=> .int .i64 0
 | .idxA _,[.sl _ f,.int _ i]=> .ip (f i.toNat)
 | .idxA _,[.osl k ver sz off _,.int _ i]=> .op k ver (off+i.toNat*sz)
 | .idxArr _ sz,[.ip cs,.int _ i]=> .ip ((cs.drop (i.toNat*sz)).take sz)
 | .idxArr _ sz,[.op k ver off,.int _ i]=> .op k ver (off+i.toNat*sz)
 | .fldA off,[.ip cs]=> .ip (cs.drop off)
 | .fldA off,[.op k ver o]=> .op k ver (o+off)
 | .load n,[.ip cs]=>cut cs 0 n
 | .load n,[.op k ver off]=>cut ((cellsOf h k ver).getD []) off n
 | .nilchk,[x]=>x
 | .slc _ _ _,.nl::_=> .nl
 | .slc _ lo hi,.sl n f::bs=> .sl ((hiB lo hi n bs).toNat-(loB lo bs).toNat) (λi=>f ((loB lo bs).toNat+i))
 | .slc _ lo hi,.osl k ver sz off n::bs=> .osl k ver sz (off+(loB lo bs).toNat*sz) ((hiB lo hi n bs).toNat-(loB lo bs).toNat)
 |_,_=> .undef
def okL(h:List AObj):R->List AV->Prop
 | .b2s,[.sl n f]=> ∀i,i<n->qtO (f i)
 | .b2s,[.nl]=>True
 | .b2s,[.osl k ver sz off n]=>qH h k ver=true∧sz=1∧off+n<=((cellsOf h k ver).getD []).length∧ ∀c∈((((cellsOf h k ver).getD []).drop off).take n),qc5 c
 | .len,[.sl _ _]=>True
 | .len,[.nl]=>True
 | .len,[.el]=>True
 | .len,[.osl k ver _ _ _]=>qH h k ver=true
 | .cap,[.nl]=>True
 | .idxA sz,[.sl n f,.int _ i]=>(0<=i∧i<n)∧(f i.toNat).length=sz
 | .idxA sz,[.osl k ver sz' _ n,.int _ i]=>(0<=i∧i<n)∧sz'=sz∧(cellsOf h k ver).isSome=true
 | .idxArr n sz,[.ip cs,.int _ i]=>(0<=i∧i<n)∧cs.length=n*sz
 | .idxArr n sz,[.op k ver off,.int _ i]=>(0<=i∧i<n)∧(cellsOf h k ver).isSome=true
 | .fldA off,[.ip cs]=>off<cs.length
 | .fldA _,[.op k ver _]=>(cellsOf h k ver).isSome=true
 | .load n,[.ip cs]=>kv cs 0 n
 | .load n,[.op k ver off]=>(cellsOf h k ver).isSome=true∧kv ((cellsOf h k ver).getD []) off n
 | .nilchk,[.ip _]=>True
 | .nilchk,[.op k ver _]=>(cellsOf h k ver).isSome=true
 | .nilchk,[.fn (.func _) _ _]=>True
 | .slc _ lo hi,.nl::bs=>qcs bs∧bs.length=(if lo then 1 else 0)+(if hi then 1 else 0)∧0<=loB lo bs∧loB lo bs<=hiB lo hi ((0:Nat):Int) bs∧hiB lo hi ((0:Nat):Int) bs<=0
 | .slc sz lo hi,.sl n f::bs=>qcs bs∧bs.length=(if lo then 1 else 0)+(if hi then 1 else 0)∧0<=loB lo bs∧loB lo bs<=hiB lo hi n bs∧hiB lo hi n bs<=n∧(0<n->(f 0).length=sz)
 | .slc sz lo hi,.osl k ver sz' _ n::bs=>qcs bs∧bs.length=(if lo then 1 else 0)+(if hi then 1 else 0)∧0<=loB lo bs∧loB lo bs<=hiB lo hi n bs∧hiB lo hi n bs<=n∧sz'=sz∧qH h k ver=true∧(loB lo bs=0∨loB lo bs<n)
 |_,_=>False
end AF
end
section
namespace AF
open Go
def ofV:Value->Option AV
 | .bool b=>some (.bool b)
 | .int k n=>some (.int k n)
 | .string s=>some (.str s.data.toList)
 | .slice none 0 0=>some .nl
 | .pointer none=>some .nilp
 | .nilFunc=>some .nilfn
 | .nilIface=>some .nilif
 |_=>none
def qnL:List Value->Option (List AV)
 | []=>some []
 |v::r=>match ofV v,qnL r with
  |some a,some l=>some (a::l)
  |_,_=>none
def cvX:Operand->Option X
 | .tmp t=>some (.t t)
 | .const (.agg cs)=>(qnL cs.toList).map λl=> .c (.agg l)
 | .const (.tuple cs)=>if cs.toList.isEmpty then some (.c (.tup [])) else none
 | .const v=>(ofV v).map .c
 | .func f=>some (.c (.fn (.func f) [] []))
 | .global _=>none
def qxN:List Operand->Option (List X)
 | []=>some []
 |x::r=>match cvX x,qxN r with
  |some a,some l=>some (a::l)
  |_,_=>none
def qsb:TypeDesc->Bool
 | .struct _| .array _ _=>true
 |_=>false
def qaa(P:Program)(t:TypeId):Option (Option Nat):=
 match P.underlying t,P.info? t with
 |some d,some i=>some (if qsb d then some i.size else none)
 |_,_=>none
def ji(P:Program)(t:TypeId):Option Nat:=(P.info? t).map (·.size)
def qcR(P:Program)(t:TypeId):Option (List AV):=
 match P.info? t with
 |some i=>match i.zero with
  |some z=>if z.cells.size=i.size then qnL z.cells.toList else none
  |none=>none
 |none=>none
def km(P:Program)(t:TypeId)(f:Nat):Option (Nat×Option Nat):=
 match P.underlying t with
 |some (.struct fs)=>match fs[f]? with
  |some x=>match qaa P x.type,P.info? x.type with
   |some a,some i=>if i.size=0 then none else some (x.offset,a)
   |_,_=>none
  |none=>none
 |_=>none
def qbn(P:Program)(t:TypeId):List Nat->Option (List (Nat×Nat))
 | []=>some []
 |f::r=>match P.underlying t with
  |some (.struct fs)=>match fs[f]?,qbn P t r with
   |some x,some l=>(ji P x.type).map λn=>(x.offset,n)::l
   |_,_=>none
  |some (.array _ e)=>match ji P e,qbn P t r with
   |some n,some l=>some ((f*n,n)::l)
   |_,_=>none
  |_=>none
def qjV(P:Program)(t:TypeId):Bool:=
 match P.underlying t with
 |some (.struct fs)=>fs.toList.all λf=>(P.info? f.type).isSome
 |some (.array _ e)=>(P.info? e).isSome
 |_=>false
def qrO:TypeDesc->Option NK
 | .pointer _=>some .ptr
 | .func .. =>some .func
 | .interface _=>some .iface
 | .slice _=>some .slice
 |_=>none
def gz:NK->Operand->Bool
 | .slice,.const (.slice none 0 0)| .ptr,.const (.pointer none)| .func,.const .nilFunc| .iface,.const .nilIface=>true
 |_,_=>false
def qdD(k:NK)(op:BinOp)(x y:Operand):Option (R×List Operand):=
 match op with
 | .eql=>if gz k y then some (.isnil k false,[x]) else if gz k x then some (.isnil k false,[y]) else none
 | .neq=>if gz k y then some (.isnil k true,[x]) else if gz k x then some (.isnil k true,[y]) else none
 |_=>none
def qnZ(P:Program)(t:TypeId):Option AK:=
 match P.underlying t with
 |some .bool=>some .bool
 |some (.int _)=>some .int
 |some .string=>some .str
 |_=>none
def qep(P:Program):Nat->List Field->Option (List AK)
 |_,[]=>some []
 |n,f::r=>match qnZ P f.type,qep P (n+1) r with
  | some k, some l => if f.offset = n && f.name != "_" then some (k :: l) else none
  |_,_=>none
def okZ(P:Program)(e:TypeId):Option TypeInfo:=
 match P.info? e with
 |some i=>match i.zero with
  |some z=>if z.cells.size=i.size∧0<i.size∧e<qbI then some i else none
  |none=>none
 |none=>none
def okB(P:Program)(e:TypeId):Bool:=
 match P.info? e with
 |some i=>match i.zero with
  |some (.int .u8 0)=>decide (i.size=1∧i.bytes=1∧e<qbI)
  |_=>false
 |none=>false
def okU(P:Program)(e:TypeId):Bool:=
 match P.underlying e with
 |some (.int .u8)=>true
 |_=>false
def qai(js:List Tmp)(d:Option Tmp):Option Nat:=d.bind λd=>js.idxOf? d
def qfl:Option Operand->List Operand
 |some x=> [x]
 |none=> []
def qkB(P:Program)(js:List Tmp)(imp:List FuncId)(o:Oper):Option (R×List Operand):=
 match o.op with
 | .assign (.const (.slice none 0 0))| .move (.const (.slice none 0 0))=>
  match qai js o.dst,P.underlying o.type with
  |some j,some (.slice e)=>(ji P e).map λsz=>(.nilo j sz e,[])
  |_,_=>some (.mv,[.const (.slice none 0 0)])
 | .move x| .assign x=>some (.mv,[x])
 | .pick c a b=>some (.pick,[c,a,b])
 | .binOp op t x y _=>
  match P.underlying t with
  |some (.int _)=>some (.bin op,[x,y])
  |some .string=>some (.bin op,[x,y])
  |some .bool=>match op with
   | .eql=>some (.bool false,[x,y])
   | .neq=>some (.bool true,[x,y])
   |_=>none
  |some (.struct fs)=>
   match qep P 0 fs.toList,!P.stoodInHeld t&& !P.eqGuardType P.depth t with
   |some ks,true=>match op with
    | .eql=>some (.aeq ks false,[x,y])
    | .neq=>some (.aeq ks true,[x,y])
    |_=>none
   |_,_=>none
  |some d=>match qrO d with
   |some k=>qdD k op x y
   |none=>none
  |none=>none
 | .unOp op _ x=>some (.un op,[x])
 | .convert s d x=>
  match P.underlying s,P.underlying d with
  |some (.int _),some (.int k)=>some (.conv k,[x])
  |some .string,some (.slice e)=>if okU P e=true then (match qai js o.dst with
   |some j=>some (.s2bo j e,[x])
   |none=>some (.s2b,[x])) else none
  |some (.slice e),some .string=>if okU P e=true then some (.b2s,[x]) else none
  |_,_=>none
 | .field t x f=>(km P t f).map λp=>(.fld p.1 p.2,[x])
 | .extract x i=>some (.ext i,[x])
 | .build t ps=>
  match qcR P t,qbn P t (ps.toList.map (·.1)),qjV P t with
  |some z,some l,true=>some (.build z l,ps.toList.map (·.2))
  |_,_,_=>none
 | .makeFunc f first cap=>some (.mkfn f first.size,first.toList++cap.toList)
 | .index t x i=>match P.underlying t with
  |some .string=>some (.sidx,[x,i])
  |some (.array len e)=>match qaa P e,P.info? e with
   |some a,some d=>some (.aidx len d.size a,[x,i])
   |_,_=>none
  |_=>none
 | .slice t x lo hi none=>match P.underlying t with
  |some .string=>some (.sslc lo.isSome hi.isSome,x::(qfl lo++qfl hi))
  |some (.slice e)=>(ji P e).map λsz=>(.slc sz lo.isSome hi.isSome,x::(qfl lo++qfl hi))
  |_=>none
 | .indexAddr t x i=>match P.underlying t with
  |some (.slice e)=>(ji P e).map λsz=>(.idxA sz,[x,i])
  |some (.array n e)=>match x with
   | .global g=>(ji P e).map λsz=>(.gix g n sz,[i])
   |_=>(ji P e).map λsz=>(.idxArr n sz,[x,i])
  |_=>none
 | .fieldAddr t x f=>(km P t f).map λp=>(.fldA p.1,[x])
 | .load t x=>(qaa P t).map λn=>(.load n,[x])
 | .nilCheck x=>some (.nilchk,[x])
 | .alloc t=>match qai js o.dst,qcR P t with
  |some j,some z=>some (.alloc j t z,[])
  |_,_=>none
 | .box t x=>(qai js o.dst).map λj=>(.box j t,[x])
 | .store t a x=>(ji P t).map λn=>(.store n,[a,x])
 | .makeSlice t l c=>match qai js o.dst,P.underlying t with
  |some j,some (.slice e)=>match qcR P e,P.info? e with
   |some z,some i=>some (.mkslc j i.size e z i.bytes,[l,c])
   |_,_=>none
  |_,_=>none
 | .buildSlice t n ps=>match qai js o.dst,P.underlying t with
  |some j,some (.slice e)=>match qcR P e,P.info? e with
   |some z,some i=>if n*i.size<=16777216 then some (.bslc j i.size n e z (ps.toList.map λp=>(p.1*i.size,i.size)),ps.toList.map (·.2)) else none
   |_,_=>none
  |_,_=>none
 | .call c=>match c.callee with
  | .builtin .len=>match c.args.toList,c.argTypes.toList with
   | [x],[t]=>match P.underlying t with
    |some (.slice _)=>some (.len,[x])
    |some .string=>some (.slen,[x])
    |_=>none
   |_,_=>none
  | .builtin .cap=>match c.args.toList,c.argTypes.toList with
   | [x],[t]=>match P.underlying t with
    |some (.slice _)=>some (.cap,[x])
    |_=>none
   |_,_=>none
  | .builtin .max=>match c.argTypes.toList with
   |t::_=>match P.underlying t with
    |some (.int _)=>some (.mm true,c.args.toList)
    |_=>none
   |_=>none
  | .builtin .min=>match c.argTypes.toList with
   |t::_=>match P.underlying t with
    |some (.int _)=>some (.mm false,c.args.toList)
    |_=>none
   |_=>none
  | .builtin .append=>match qai js o.dst,c.args.toList,c.argTypes.toList with
   |some j,[x,y],[t,u]=>match P.underlying t,P.underlying u with
    |some (.slice e),some (.slice _)=>if t=u then (okZ P e).map λi=>(.app j i.size e i.bytes,[x,y]) else none
    |some (.slice e),some .string=>if okB P e then some (.apps j e,[x,y]) else none
    |_,_=>none
   |_,_,_=>none
  | .builtin .copy=>match c.args.toList,c.argTypes.toList with
   | [x,y],[t,u]=>match P.underlying t,P.underlying u with
    |some (.slice e),some (.slice _)=>match P.info? e with
     |some i=>some (.cpy i.size,[x,y])
     |none=>none
    |_,_=>none
   |_,_=>none
  | .value (.func f) => if (P.funcs[f]?).any (λfn => fn.body.isSome && fn.name != "runtime.NumGoroutine") then some (.call f (!imp.contains f), c.args.toList) else none
  | .value (.tmp t)=>some (.callv,.tmp t::c.args.toList)
  |_=>none
 |_=>none
def qs5(P:Program)(js:List Tmp)(imp:List FuncId)(all:Array Oper)(o:Oper):Option RO:=
 match qkB P js imp o with
 |some (r,xs)=>match qxN xs with
  |some ys=>match o.guard with
   |none=>some ⟨o.dst,none,r,ys⟩
   |some (j,want)=>match (all[j]?).bind (·.dst)with
    |some d=>some ⟨o.dst,some (d,want),r,ys⟩
    |none=>none
  |none=>none
 |none=>none
def qpe:R->R
 | .idxA sz=> .idxI sz
 | .fldA off=> .fldI off
 | .load n=> .loadI n
 |r=>r
def qAd(imp:List FuncId)(o:RO):RO:=
 match o.dst with
 |some d=>if imp.contains (1000000+d) then { o with op:=qpe o.op } else o
 |none=>o
def qs4(P:Program)(js:List Tmp)(imp:List FuncId)(all:Array Oper)(o:Oper):Option RO:=(qs5 P js imp all o).map (qAd imp)
def qhI(P:Program)(js:List Tmp)(imp:List FuncId)(all:Array Oper):List Oper->Option (List RO)
 | []=>some []
 |o::r=>match qs4 P js imp all o,qhI P js imp all r with
  |some a,some l=>some (a::l)
  |_,_=>none
inductive DT where
 |nil
 |one (o:RO) (r:DT)
 |uni (o:RO) (r:DT)
 |two (x y:DT)
 deriving Inhabited
inductive C where
 |skip
 |ops (l:List RO)
 |seq (a b:C)
 |cond (c:X) (t e:C)
 |block (id:Nat) (c:C)
 |loop (c:C)
 |range (f:X) (ps:List Nat) (asg body:C)
 |exit (id:Nat)
 |ret
 |wk
 |draw (d:DT)
 |bad
 deriving Inhabited
end AF
end
section
namespace AF
open Go
def ql(h:List AObj):AV->Option (Nat×List AV)
 | .nl=>some (0,[])
 | .el=>some (0,[])
 | .sl n f=>some (n,(List.range n).flatMap f)
 | .osl k ver sz off n=>match qu k h with
  |some (.mem v _ cs)=>if v=ver∧off+n*sz<=cs.length then some (n,(cs.drop off).take (n*sz)) else none
  |some (.emp v)=>if v=ver∧n=0 then some (0,[]) else none
  |_=>none
 |_=>none
def qaz:AV->AV->Bool
 | .osl k ..,.osl k' .. =>k !=k'
 |_,_=>true
def zQ(s:List UInt8):List AV:=s.map λb=> .int .u8 b.toNat
def qo:Option AObj->Nat
 |some (.mem v _ _)=>v
 |some (.emp v)=>v
 |some (.map v _)=>v
 |_=>0
def qi0(o:Option AObj)(ty:TypeId):Bool:=
 match o with
 |some (.mem _ t _)=>t==ty
 |_=>true
def qnO:Option AObj->TypeId
 |some (.mem _ t _)=>t
 |_=>0
def qz(h:List AObj)(k:Nat):Bool:=
 match qu k h with
 |some (.mem ..)|some (.emp _)|some (.map ..)=>true
 |_=>false
def zM(z:List AV):Nat->List AV
 |0=> []
 |n+1=>z++zM z n
def qgt(o:Option AObj)(ty:TypeId)(ver c n:Nat)(cs:List AV):AObj:=
 match o with
 |some (.mem _ _ ds)=> .mem (ver+1) ty (ds.take c++cs)
 |_=>if n=0 then .emp (ver+1) else .mem (ver+1) ty cs
def qY(t:List AV)(d:Option Nat)(v:AV):List AV:=
 match d with
 |some d=>jv d t v
 |none=>t
def qhs(g:Nat)(cs:List AV)(w:World):Prop:=
 ∃(arr:Array Value) (T:TypeId) (fz:Nat×Nat),w.heap[g]? =some (.cells arr T fz)∧cs.length<=arr.size∧ ∀(i:Nat) c x,cs[i]? =some c->arr[i]? =some x->x.oneCell'=true∧ ∀(w':World) (ow:Nat->Prop),VI w' ow c x
def jf(h:List AObj)(g:Nat)(cs:List AV):Prop:= ∃(k:Nat) (bs:List Nat) (G:World->Prop),h[k]? =some (.pin bs G)∧g∈bs∧ ∀w,G w->qhs g cs w
def effE(b:Nat)(h:List AObj)(r:R)(vs:List AV)(t:List AV)(d:Option Nat)(nx:List AV->List AObj->Prop):Prop:=
 match r,vs with
 | .nilo j sz _,[]=>qz h (b+j)=true∧
   nx (qY t d (.osl (b+j) (qo (qu (b+j) h)+1) sz 0 0)) (qt (b+j) h (.emp (qo (qu (b+j) h)+1)))
 | .alloc j ty z,[]=>qz h (b+j)=true∧
   nx (qY t d (.op (b+j) (qo (qu (b+j) h)+1) 0)) (qt (b+j) h (.mem (qo (qu (b+j) h)+1) ty z))
 | .box j ty,[v]=>(qz h (b+j)=true∧v.solid=true)∧
   nx (qY t d (.op (b+j) (qo (qu (b+j) h)+1) 0)) (qt (b+j) h (.mem (qo (qu (b+j) h)+1) ty v.cells))
 | .store n,[.op k ver off,v]=>((cellsOf h k ver).isSome=true∧v.solid=true∧v.cells.length=n∧off+n<=((cellsOf h k ver).getD []).length)∧
   nx (qY t d (.tup [])) (qt k h (.mem ver (qnO (qu k h)) (((cellsOf h k ver).getD []).take off++v.cells++((cellsOf h k ver).getD []).drop (off+n))))
 | .mkslc j sz ty z bytes,[.int .i64 l,.int .i64 c]=>(qz h (b+j)=true∧z.length=sz∧0<=l∧l=c∧c*(bytes:Int)<=140737488355328∧c<=140737488355328)∧
   nx (qY t d (.osl (b+j) (qo (qu (b+j) h)+1) sz 0 l.toNat)) (qt (b+j) h (.mem (qo (qu (b+j) h)+1) ty (zM z l.toNat)))
 | .bslc j sz n ty z ps,vs=>(qz h (b+j)=true∧z.length=sz∧UE (n*sz) ps vs∧n<=140737488355328)∧
   nx (qY t d (.osl (b+j) (qo (qu (b+j) h)+1) sz 0 n)) (qt (b+j) h (.mem (qo (qu (b+j) h)+1) ty (UR (zM z n) ps vs)))
 | .app j sz ty bytes,[.nl,y]=>((ql h y).isSome=true∧qz h (b+j)=true∧((ql h y).getD (0,[])).2.length=((ql h y).getD (0,[])).1*sz∧
    (((ql h y).getD (0,[])).1:Int)*bytes<=140737488355328∧(((ql h y).getD (0,[])).1:Int)<=140737488355328)∧
   nx (qY t d (.osl (b+j) (qo (qu (b+j) h)+1) sz 0 ((ql h y).getD (0,[])).1))
    (qt (b+j) h (if ((ql h y).getD (0,[])).1=0 then .emp (qo (qu (b+j) h)+1) else .mem (qo (qu (b+j) h)+1) ty ((ql h y).getD (0,[])).2))
 | .app _ sz ty bytes,[.osl k ver sz' off m,y]=>((ql h y).isSome=true∧qH h k ver=true∧qi0 (qu k h) ty=true∧m*sz<=((cellsOf h k ver).getD []).length∧qaz (.osl k ver sz' off m) y=true∧sz'=sz∧off=0∧
    ((ql h y).getD (0,[])).2.length=((ql h y).getD (0,[])).1*sz∧
    ((m+((ql h y).getD (0,[])).1:Nat):Int)*bytes<=140737488355328∧((m+((ql h y).getD (0,[])).1:Nat):Int)<=140737488355328)∧
   nx (qY t d (.osl k (ver+1) sz 0 (m+((ql h y).getD (0,[])).1)))
    (qt k h (qgt (qu k h) ty ver (m*sz) ((ql h y).getD (0,[])).1 ((ql h y).getD (0,[])).2))
 | .cpy sz,[.osl k ver sz' off m,y]=>(qH h k ver=true∧(cellsOf h k ver).isSome=true∧sz'=sz∧off+m*sz<=((cellsOf h k ver).getD []).length∧(ql h y).isSome=true∧((ql h y).getD (0,[])).2.length=((ql h y).getD (0,[])).1*sz)∧
   nx (qY t d (.int .i64 ((min ((ql h y).getD (0,[])).1 m:Nat):Int))) (qt k h (.mem ver (qnO (qu k h)) (((cellsOf h k ver).getD []).take off++((ql h y).getD (0,[])).2.take (min ((ql h y).getD (0,[])).1 m*sz)++((cellsOf h k ver).getD []).drop (off+min ((ql h y).getD (0,[])).1 m*sz))))
 | .gix g n sz,[.int _ i]=> ∃cs,jf h g cs∧(0<=i∧i<n)∧cs.length=n*sz∧nx (qY t d (.ip ((cs.drop (i.toNat*sz)).take sz))) h
 | .s2b,[.str s]=>(s.length:Int)<=140737488355328∧nx (qY t d (.sl s.length λi=> [.int .u8 ((s.getD i 0).toNat:Int)])) h
 | .s2bo j ty,[.str s]=>(qz h (b+j)=true∧(s.length:Int)<=140737488355328)∧nx (qY t d (.osl (b+j) (qo (qu (b+j) h)+1) 1 0 s.length)) (qt (b+j) h (.mem (qo (qu (b+j) h)+1) (ty+qbI) (zQ s)))
 | .apps j ty,[.nl,.str s]=>(qz h (b+j)=true∧(s.length:Int)<=140737488355328)∧
   nx (qY t d (.osl (b+j) (qo (qu (b+j) h)+1) 1 0 s.length))
    (qt (b+j) h (if s.length=0 then .emp (qo (qu (b+j) h)+1) else .mem (qo (qu (b+j) h)+1) ty (zQ s)))
 | .apps _ ty,[.osl k ver sz' off m,.str s]=>(qH h k ver=true∧qi0 (qu k h) ty=true∧m<=((cellsOf h k ver).getD []).length∧sz'=1∧off=0∧((m+s.length:Nat):Int)<=140737488355328)∧
   nx (qY t d (.osl k (ver+1) 1 0 (m+s.length)))
    (qt k h (qgt (qu k h) ty ver m s.length (zQ s)))
 |_,_=>False
def qc7(r:Nat):Deferred:= { target:= .collected r,args:= #[] }
structure SR (N:Nat) (w:World) (σ:List OB) (t:List AV) (h:List AObj) (a:Act):Prop where
 hr:HR w σ h
 sz:a.tmps.size=t.length
 tm: ∀(i:Nat) c x,t[i]? =some c->a.tmps[i]? =some x->VR w σ c x
 df: ∃rs:List Nat,a.defers=rs.map qc7∧rs.Nodup∧N<=w.heap.size∧ ∀r∈rs,N<=r∧r<w.heap.size∧ ¬own σ r∧w.heap[r]? =some (.deferred (some []))
theorem qaH{N:Nat}{w w':World}{σ σ':List OB}(e:Ext w σ w' σ'){ds:List Deferred}(h: ∃rs:List Nat,ds=rs.map qc7∧rs.Nodup∧N<=w.heap.size∧ ∀r∈rs,N<=r∧r<w.heap.size∧ ¬own σ r∧w.heap[r]? =some (.deferred (some []))):
  ∃rs:List Nat,ds=rs.map qc7∧rs.Nodup∧N<=w'.heap.size∧ ∀r∈rs,N<=r∧r<w'.heap.size∧ ¬own σ' r∧w'.heap[r]? =some (.deferred (some [])):=by
 obtain⟨rs,h1,h2,hN,h3⟩:=h;refine⟨rs,h1,h2,Nat.le_trans hN e.size,λr hr=> ?_⟩;obtain⟨g1,g2,g3,g4⟩:=h3 r hr
 have:=e.size
 refine⟨g1,by omega,λhw=> ?_,(e.keep r g2 g3).trans g4⟩;rcases e.own r hw with h|h
 ·exact g3 h
 ·omega
def FW(ρ:Option Nat):Fence:= { Fence.wide with round:=ρ }
def okF (P : Program) (f : FuncId) : Bool := (P.funcs[f]?).any λfn => fn.body.isSome && fn.name != "runtime.NumGoroutine"
def ACalls(P:Program)(f:FuncId)(args:List AV)(h:List AObj)(r:AV)(h':List AObj):Prop:=
 okF P f=true∧ ∀(w:World) (σ:List OB) (xs:List Value),HR w σ h->VRs w σ args xs->
  CallsIn Fence.wide 0 P f xs.toArray w λe w'=> ∃v σ',e= .returned v∧HR w' σ' h'∧VR w' σ' r v∧Ext w σ w' σ'
def jj(P:Program)(f:FuncId)(args:List AV)(h:List AObj)(R:AV->List AObj->Prop):Prop:=
 okF P f=true∧ ∀(w:World) (σ:List OB) (xs:List Value),HR w σ h->VRs w σ args xs->
  CallsIn Fence.wide 0 P f xs.toArray w λe w'=> ∃v σ' r h',R r h'∧e= .returned v∧HR w' σ' h'∧VR w' σ' r v∧Ext w σ w' σ'
def kr(P:Program)(k:Nat)(args:List AV)(h:List AObj)(Q:AV->List AObj->Prop):Prop:=
 ∀(w:World) (σ:List OB) (xs:List Value) (b:Nat),HR w σ h->VRs w σ args xs->(∃o:OB,σ[k]? =some o∧o.ver=0∧o.blk=some b)->
  ∃fn tmps assign body,(Instr.yield b xs.toArray).run P w= .ok (.round b fn tmps assign body) w∧
   RoundIn Fence.wide 0 P b fn tmps assign body w λe w'=> ∃r σ' h',e= .returned (.bool r)∧HR w' σ' h'∧Ext w σ w' σ'∧Q (.bool r) h'
def qS(g:AV)(want:Bool):Bool:=
 match g with
 | .bool b=>b==want
 | .gd g (.bool b)=>g&&(b==want)
 |_=>false
def zP:AV->Bool
 | .bool _| .gd _ (.bool _)=>true
 |_=>false
def kp(c x y:AV):AV:=
 match x.strip,y.strip with
 | .bool p,.bool q=> .bool ((qaB c.strip&&p)||(!qaB c.strip&&q))
 |p,q=>if qaB c.strip then p else q
def UX(c x y:AV):Prop:=
 match c with
 | .bool c=>(c=true->x.flag=true)∧(c=false->y.flag=true)
 | .gd g (.bool c)=>g=true∧(c=true->x.flag=true)∧(c=false->y.flag=true)
 |_=>False
inductive Kd where
 |pure|mem|eff|call (f:Nat) (pure:Bool)|callv|pick
def R.kd:R->Kd
 | .len| .idxA _| .idxArr .. | .fldA _| .load _| .nilchk| .slc .. | .b2s| .cap=> .mem
 | .nilo .. | .alloc .. | .box .. | .store _| .mkslc .. | .bslc .. | .app .. | .apps .. | .gix .. | .s2b| .s2bo .. | .cpy .. => .eff
 | .call f p=> .call f p
 | .callv=> .callv
 | .pick=> .pick
 |_=> .pure
def flags:List AV->Prop
 | []=>True
 |v::r=>v.flag=true∧flags r
def strips:List AV->List AV
 | []=> []
 |x::r=>x.strip::strips r
def ev(t:List AV):X->AV
 | .t n=>zU n t
 | .c v=>v
def evs(t:List AV):List X->List AV
 | []=> []
 |x::r=>ev t x::evs t r
abbrev Nx:=List AV->List AObj->Prop
def qj4(P:Program)(f:Nat)(p:Bool)(vs:List AV)(d:Option Nat)(nx:Nx)(t:List AV)(h:List AObj):Prop:=
 flags vs∧ ∃v h',ACalls P f (strips vs) h v h'∧(p=true->h'=h)∧nx (qY t d v) h'
def qj5(P:Program)(f:Nat)(p:Bool)(g:Bool)(vs:List AV)(d:Option Nat)(nx:Nx)(t:List AV)(h:List AObj):Prop:=
 ∃v h',(g=true->flags vs∧ACalls P f (strips vs) h v h'∧(p=true->h'=h))∧(g=false->h'=h)∧nx (qY t d (.gd g v)) h'
def qaE(P:Program)(vs:List AV)(d:Option Nat)(nx:Nx)(t:List AV)(h:List AObj):Prop:=
 match vs with
 | .fn (.func f) first cap::args=> ∃R,jj P f (first++args++cap) h R∧ ∀v h',R v h'->nx (qY t d v) h'
 | .yld k::args=>(∃s ts L,qu k h=some (.lp s ts L))∧kr P k args h λv h'=>nx (qY t d v) h'
 |_=>False
def stepA(P:Program)(b:Nat)(r:R)(k:Kd)(vs:List AV)(d:Option Nat)(nx:Nx)(t:List AV)(h:List AObj):Prop:=
 match k with
 | .pick=>match vs with
  | [c,x,y]=>UX c x y∧nx (qY t d (kp c x y)) h
  |_=>False
 | .pure=>flags vs∧okP r (strips vs)∧nx (qY t d (valP r (strips vs))) h
 | .mem=>flags vs∧okL h r (strips vs)∧nx (qY t d (valL h r (strips vs))) h
 | .eff=>flags vs∧effE b h r (strips vs) t d nx
 | .call f p=>qj4 P f p vs d nx t h
 | .callv=>flags vs∧qaE P (strips vs) d nx t h
def kO(P:Program)(b:Nat)(r:R)(k:Kd)(g:Bool)(vs:List AV)(d:Option Nat)(nx:Nx)(t:List AV)(h:List AObj):Prop:=
 match k with
 | .pick=>match vs with
  | [c,x,y]=>(g=true->UX c x y)∧nx (qY t d (.gd g (kp c x y))) h
  |_=>False
 | .pure=>(g=true->flags vs∧okP r (strips vs))∧nx (qY t d (.gd g (valP r (strips vs)))) h
 | .mem=>(g=true->flags vs∧okL h r (strips vs))∧nx (qY t d (.gd g (valL h r (strips vs)))) h
 | .eff=>(g=true->flags vs∧effE b h r (strips vs) t d nx)∧(g=false->nx (qY t d .undef) h)
 | .call f p=>qj5 P f p g vs d nx t h
 | .callv=>(g=true->flags vs∧qaE P (strips vs) d nx t h)∧(g=false->nx (qY t d .undef) h)
def stepO(P:Program)(b:Nat)(o:RO)(nx:Nx)(t:List AV)(h:List AObj):Prop:=
 match o.g with
 |none=>stepA P b o.op o.op.kd (evs t o.xs) o.dst nx t h
 |some (j,want)=>zP (zU j t)=true∧kO P b o.op o.op.kd (qS (zU j t) want) (evs t o.xs) o.dst nx t h
def opsA(P:Program)(b:Nat):List RO->Nx->Nx
 | [],K,t,h=>K t h
 |o::r,K,t,h=>stepO P b o (opsA P b r K) t h
inductive Ex where
 |normal
 |exit (id:Nat)
 |ret
def Ex.andThen(K:Nx)(Q:Ex->Nx):Ex->Nx
 | .normal,t,h=>K t h
 |e,t,h=>Q e t h
def Ex.inBlock(id:Nat)(Q:Ex->Nx):Ex->Nx
 | .exit i,t,h=>if i=id then Q .normal t h else Q (.exit i) t h
 |e,t,h=>Q e t h
def qfD(v:AV)(A B:Nx)(t:List AV)(h:List AObj):Prop:=
 match v with
 | .bool c=>(c=true->A t h)∧(c=false->B t h)
 | .anyb=>A t h∧B t h
 |_=>False
def Wk(t:List AV)(h:List AObj)(t':List AV)(h':List AObj):Prop:=
 ∀(N:Nat) (w:World) (σ:List OB) (a:Act),SR N w σ t h a-> ∃σ',SR N w σ' t' h' a∧Ext w σ w σ'
def qAl(A:Nx->Nx)(t:List AV)(h:List AObj):Prop:=
 ∃(I:Nat->Nx),(∃n t0 h0,Wk t h t0 h0∧I n t0 h0)∧ ∀n t' h',I n t' h'->A (λt'' h''=> ∃n' t0 h0,n'<n∧Wk t'' h'' t0 h0∧I n' t0 h0) t' h'
def kN:List AV->List Nat->List AV->List AV
 |t,p::ps,v::vs=>kN (jv p t v) ps vs
 |t,_,_=>t
def qV(n:Nat):AV->Bool
 | .osl k .. =>decide (k<n)
 | .op k .. =>decide (k<n)
 | .mp k _=>decide (k<n)
 | .yld k=>decide (k<n)
 | .agg cs=>lowVs n cs
 | .tup cs=>lowVs n cs
 | .fn _ a b=>lowVs n a&&lowVs n b
 | .gd g v=> !g||qV n v
 |_=>true
where lowVs (n:Nat):List AV->Bool
 | []=>true
 |v::r=>qV n v&&lowVs n r
def lowO(n:Nat):AObj->Prop
 | .mem _ _ cs=> ∀c∈cs,qV n c=true
 | .lp _ ts _=> ∀c∈ts,qV n c=true
 | .emp _=>True
 | .map _ es=> ∀p∈es,qV n p.2=true
 | .pin .. =>True
def qdM(h0:List AObj)(t:List AV)(Q:Ex->Nx)(h:List AObj):Prop:=
 ∃hh s ts L,h=hh++ [.lp s ts L]∧hh.length=h0.length∧(∀o∈hh,o∈h0∨lowO h0.length o)∧
  match s with
  | .ready=>Q .normal t hh
  | .ret=>Q .ret t hh
  | .exit id=>Q (.exit id) t hh
  | .busy=>False
def qeV(P:Program)(u:AV)(ps:List Nat)(A B:(Ex->Nx)->Nx)(Q:Ex->Nx)(t:List AV)(h:List AObj):Prop:=
 ∀L:LInfo,(∀(k:Nat) (ts args:List AV) (h1:List AObj) (R:AV->List AObj->Prop),
   qu k h1=some (.lp .ready ts L)->args.length=ps.length->
   A (λe t2 h2=>e= .normal∧(∃ts',qu k h2=some (.lp .ready ts' L))∧ ∀ts',qu k h2=some (.lp .ready ts' L)->
    B (λe t3 h3=> ∃ts3,qu k h3=some (.lp .busy ts3 L)∧
     match e with
     | .normal=>R (.bool true) (qt k h3 (.lp .ready ts3 L))
     | .ret=>R (.bool false) (qt k h3 (.lp .ret ts3 L))
     | .exit id=>R (.bool false) (qt k h3 (.lp (.exit id) ts3 L))) t2 (qt k h2 (.lp .busy ts' L))) (kN ts ps args) h1->
   kr P k args h1 R)->
  match u with
  | .fn (.func f) first cap=>jj P f (first++ [.yld h.length]++cap) (h++ [.lp .ready t L]) λ_ h'=>qdM h t Q h'
  |_=>False
def qok(P:Program)(f:Nat)(vs:List AV)(d:Option Nat)(nx:Nx)(t:List AV)(h:List AObj):Prop:=
 flags vs∧ ∃v,(∀h0,ACalls P f (strips vs) h0 v h0)∧nx (qY t d v) h
def qxF(P:Program)(f:Nat)(g:Bool)(vs:List AV)(d:Option Nat)(nx:Nx)(t:List AV)(h:List AObj):Prop:=
 ∃v,(g=true->flags vs∧ ∀h0,ACalls P f (strips vs) h0 v h0)∧nx (qY t d (.gd g v)) h
def qj6(P:Program)(vs:List AV)(d:Option Nat)(nx:Nx)(t:List AV)(h:List AObj):Prop:=
 flags vs∧match strips vs with
  | .fn (.func f) first cap::args=> ∃v,ACalls P f (first++args++cap) h v h∧nx (qY t d v) h
  |_=>False
def qmT(P:Program)(o:RO)(nx:Nx)(t:List AV)(h:List AObj):Prop:=
 match o.op,o.g with
 | .call f _,none=>qok P f (evs t o.xs) o.dst nx t h
 | .call f _,some (j,want)=>zP (zU j t)=true∧qxF P f (qS (zU j t) want) (evs t o.xs) o.dst nx t h
 | .callv,none=>qj6 P (evs t o.xs) o.dst nx t h
 |_,_=>False
def qbV(P:Program)(b:Nat):DT->Nx->Nx
 | .nil,K,t,h=>K t h
 | .one o r,K,t,h=>opsA P b [o] (qbV P b r K) t h
 | .uni o r,K,t,h=>qmT P o (qbV P b r K) t h
 | .two x y,K,t,h=>qbV P b x K t h∧qbV P b y K t h
def ze(P:Program)(b:Nat):C->(Ex->Nx)->Nx
 | .skip,Q,t,h=>Q .normal t h
 | .ops l,Q,t,h=>opsA P b l (Q .normal) t h
 | .seq x y,Q,t,h=>ze P b x (Ex.andThen (ze P b y Q) Q) t h
 | .cond c x y,Q,t,h=>qfD (ev t c) (ze P b x Q) (ze P b y Q) t h
 | .block id x,Q,t,h=>ze P b x (Ex.inBlock id Q) t h
 | .loop x,Q,t,h=>qAl (λK=>ze P b x (Ex.andThen K Q)) t h
 | .exit id,Q,t,h=>Q (.exit id) t h
 | .ret,Q,t,h=>Q .ret t h
 | .range u ps x y,Q,t,h=>qeV P (ev t u) ps (ze P b x) (ze P b y) Q t h
 | .draw d,Q,t,h=> ∃M:Nx,qbV P b d M t h∧ ∀t' h',M t' h'->Q .normal t' h'
 | .bad,_,_,_=>False
 | .wk,Q,t,h=> ∃t' h',Wk t h t' h'∧Q .normal t' h'
end AF
end
section
namespace AF
open Go
section inv
variable {w : World} {σ : List OB} {x : Value}
theorem zV{k:IntKind}{n:Int}(h:VR w σ (.int k n) x):x= .int k n:=by
 cases h with|imm h=>cases h;rfl
theorem jT{b:Bool}(h:VR w σ (.bool b) x):x= .bool b:=by
 cases h with|imm h=>cases h;rfl
theorem qnA(h:VR w σ .anyb x): ∃b,x= .bool b:=by
 cases h with|imm h=>cases h;exact⟨_,rfl⟩
theorem kg{s:List UInt8}(h:VR w σ (.str s) x):x= .string ⟨s.toArray⟩:=by
 cases h with|imm h=>cases h;rfl
theorem qee(h:VR w σ .nl x):x= .slice none 0 0:=by
 cases h with|imm h=>cases h;rfl
theorem qqY(h:VR w σ .el x): ∃a cap,x= .slice (some a) 0 cap∧(cap=0∨ ∃b off,a=(⟨b,off,none⟩:Addr)∧cap<=maxLen∧b<w.heap.size):=by
 cases h with|imm h=>cases h with|el h=>exact⟨_,_,rfl,h⟩
theorem qed(h:VR w σ .nilp x):x= .pointer none:=by
 cases h with|imm h=>cases h;rfl
theorem qhq(h:VR w σ .nilfn x):x= .nilFunc:=by
 cases h with|imm h=>cases h;rfl
theorem qhr(h:VR w σ .nilif x):x= .nilIface:=by
 cases h with|imm h=>cases h;rfl
theorem qr3(h:VR w σ .ifc x): ∃t v,x= .iface t v:=by
 cases h with|imm h=>cases h;exact⟨_,_,rfl⟩
theorem qbR{cs:List AV}(h:VR w σ (.agg cs) x): ∃vs:Array Value,x= .agg vs∧vs.size=cs.length∧(∀(i:Nat) y,vs[i]? =some y->y.oneCell'=true)∧ ∀(i:Nat) c y,cs[i]? =some c->vs[i]? =some y->VR w σ c y:=by
 cases h with
 |imm h=>
  cases h with
  |agg hl h1 hh=>exact⟨_,rfl,hl,h1,λi c y hc hy=> .imm (hh i c y hc hy)⟩
 |agg hl h1 hh=>exact⟨_,rfl,hl,h1,hh⟩
theorem qfh{cs:List AV}(h:VR w σ (.tup cs) x): ∃vs:Array Value,x= .tuple vs∧vs.size=cs.length∧ ∀(i:Nat) c y,cs[i]? =some c->vs[i]? =some y->VR w σ c y:=by
 cases h with
 |imm h=>
  cases h with
  |tup hl hh=>exact⟨_,rfl,hl,λi c y hc hy=> .imm (hh i c y hc hy)⟩
 |tup hl hh=>exact⟨_,rfl,hl,hh⟩
theorem qgo{f:Fn}{cs ds:List AV}(h:VR w σ (.fn f cs ds) x): ∃vs us:Array Value,x= .func f vs us∧vs.size=cs.length∧us.size=ds.length∧
  (∀(i:Nat) c y,cs[i]? =some c->vs[i]? =some y->VR w σ c y)∧(∀(i:Nat) c y,ds[i]? =some c->us[i]? =some y->VR w σ c y):=by
 cases h with
 |imm h=>
  cases h with
  |fn hl hl' hh hh'=>exact⟨_,_,rfl,hl,hl',λi c y hc hy=> .imm (hh i c y hc hy),λi c y hc hy=> .imm (hh' i c y hc hy)⟩
 |fn hl hl' hh hh'=>exact⟨_,_,rfl,hl,hl',hh,hh'⟩
theorem qiY{cs:List AV}(h:VR w σ (.ip cs) x): ∃(b off:Nat) (vals:Nat->Value),x= .pointer (some ⟨b,off,none⟩)∧ ¬own σ b∧b<w.heap.size∧
  (∀(j:Nat),j<cs.length->w.cell? ⟨b,off+j,none⟩=some (vals j))∧(∀(j:Nat),j<cs.length->(vals j).oneCell'=true)∧ ∀(j:Nat) c,cs[j]? =some c->VI w (own σ) c (vals j):=by
 cases h with
 |imm h=>
  cases h with
  |ip b off vals hb hlt hc h1 hv=>exact⟨b,off,vals,rfl,hb,hlt,hc,h1,hv⟩
theorem qfg{n:Nat}{f:Nat->List AV}(h:VR w σ (.sl n f) x):(n=0∧ ∃a,x= .slice a 0 0)∨ ∃(sz b off cap:Nat) (vals:Nat->Nat->Value),
  x= .slice (some ⟨b,off,none⟩) n cap∧n<=cap∧cap<=maxLen∧(0<n-> ¬own σ b)∧b<w.heap.size∧(∀i,i<n->(f i).length=sz)∧
  (∀(i j:Nat),i<n->j<sz->w.cell? ⟨b,off+i*sz+j,none⟩=some (vals i j))∧(∀(i j:Nat),i<n->j<sz->(vals i j).oneCell'=true)∧ ∀(i j:Nat) c,i<n->(f i)[j]? =some c->VI w (own σ) c (vals i j):=by
 cases h with
 |imm h=>
  cases h with
  |nilsl=>exact .inl ⟨rfl,_,rfl⟩
  |sl sz b off cap vals hn hm hb hlt hsz hc h1 hv=>exact .inr ⟨sz,b,off,cap,vals,rfl,hn,hm,hb,hlt,hsz,hc,h1,hv⟩
theorem qnD{k ver sz off len:Nat}(h:VR w σ (.osl k ver sz off len) x): ∃o:OB,σ[k]? =some o∧ver<=o.ver∧(o.ver=ver->
  (o.blk=none∧off=0∧len=0∧x= .slice none 0 0)∨ ∃b cap,o.blk=some b∧x= .slice (some ⟨b,off,none⟩) len cap∧len<=cap∧cap<=maxLen∧off+cap*sz=o.size):=by
 cases h with
 |imm h=>cases h
 |osl o ho hs hv hh=>exact⟨o,ho,hv,hh⟩
theorem qvd{k ver off:Nat}(h:VR w σ (.op k ver off) x): ∃o:OB,σ[k]? =some o∧ver<=o.ver∧(o.ver=ver-> ∃b,o.blk=some b∧x= .pointer (some ⟨b,off,none⟩)):=by
 cases h with
 |imm h=>cases h
 |op o ho hs hv hh=>exact⟨o,ho,hv,hh⟩
theorem qBx{k:Nat}(h:VR w σ (.yld k) x): ∃o:OB,σ[k]? =some o∧(o.ver=0-> ∃b,o.blk=some b∧x= .func (.yield b) #[] #[]):=by
 cases h with
 |imm h=>cases h
 |yld o ho hs hh=>exact⟨o,ho,hh⟩
theorem qve{k ver sz off len:Nat}(h:VR w σ (.osl k ver sz off len) x): ∃a n c,x= .slice a n c:=by
 cases h with
 |imm h=>cases h
 |osl o ho hs hv hh=>exact hs
theorem qBu{k ver:Nat}(h:VR w σ (.mp k ver) x): ∃a,x= .map a:=by
 cases h with
 |imm h=>cases h
 |mp o ho hs hv hh=>exact hs
theorem qBv{k ver off:Nat}(h:VR w σ (.op k ver off) x): ∃a,x= .pointer a:=by
 cases h with
 |imm h=>cases h
 |op o ho hs hv hh=>exact hs
theorem qvg{k:Nat}(h:VR w σ (.yld k) x): ∃b,x= .func (.yield b) #[] #[]:=by
 cases h with
 |imm h=>cases h
 |yld o ho hs hh=>exact hs
theorem qnB{g:Bool}{v:AV}(h:VR w σ (.gd g v) x):(g=true->VR w σ v x)∧(g=false->x=Go.undef):=by
 cases h with
 |imm h=>cases h
 |gd h h'=>exact⟨h,h'⟩
theorem qef{v:AV}(h:VR w σ v x)(hf:v.flag=true):VR w σ v.strip x:=by
 cases v<;>first|exact h|exact (qnB h).1 hf
theorem qec{k:IntKind}{n:Int}:VR w σ (.int k n) (.int k n):= .imm .int
theorem qdm{b:Bool}:VR w σ (.bool b) (.bool b):= .imm .bool
theorem qCm{s:List UInt8}:VR w σ (.str s) (.string ⟨s.toArray⟩):= .imm .str
theorem qeg{x:Value}:VR w σ .undef x:= .imm .undef
end inv
theorem VRs.strips{w:World}{σ:List OB}: ∀ {vs:List AV} {xs:List Value},VRs w σ vs xs->flags vs->VRs w σ (AF.strips vs) xs:=by
 intro vs
 induction vs with
 |nil=>intro xs h _;exact h
 |cons v r ih=>
  intro xs h hf;cases xs with
  |nil=>simp[VRs]at h
  |cons x xs=>
   have hr:VRs w σ r xs:=⟨by simpa using h.1,λi c y hc hy=>h.2 (i+1) c y (by simpa using hc) (by simpa using hy)⟩
   have h0:=h.2 0 v x rfl rfl
   have:=ih hr hf.2
   refine⟨by simp[AF.strips,this.1],λi c y hc hy=> ?_⟩;cases i with
   |zero=>simp[AF.strips]at hc hy;subst hc hy;exact qef h0 hf.1
   |succ i=>exact this.2 i c y (by simpa[AF.strips] using hc) (by simpa using hy)
theorem VRs.one{w:World}{σ:List OB}{a:AV}{xs:List Value}(h:VRs w σ [a] xs): ∃x,xs= [x]∧VR w σ a x:=by
 match xs,h with
 | [x],h=>exact⟨x,rfl,h.2 0 a x rfl rfl⟩
theorem VRs.two{w:World}{σ:List OB}{a c:AV}{xs:List Value}(h:VRs w σ [a,c] xs): ∃x y,xs= [x,y]∧VR w σ a x∧VR w σ c y:=by
 match xs,h with
 | [x,y],h=>exact⟨x,y,rfl,h.2 0 a x rfl rfl,h.2 1 c y rfl rfl⟩
theorem VRs.three{w:World}{σ:List OB}{a c e:AV}{xs:List Value}(h:VRs w σ [a,c,e] xs): ∃x y z,xs= [x,y,z]∧VR w σ a x∧VR w σ c y∧VR w σ e z:=by
 match xs,h with
 | [x,y,z],h=>exact⟨x,y,z,rfl,h.2 0 a x rfl rfl,h.2 1 c y rfl rfl,h.2 2 e z rfl rfl⟩
theorem VRs.cons{w:World}{σ:List OB}{a:AV}{as:List AV}{xs:List Value}(h:VRs w σ (a::as) xs): ∃x r,xs=x::r∧VR w σ a x∧VRs w σ as r:=by
 match xs,h with
 |x::r,h=>exact⟨x,r,rfl,h.2 0 a x rfl rfl,⟨by simpa using h.1,λi c y hc hy=>h.2 (i+1) c y (by simpa using hc) (by simpa using hy)⟩⟩
theorem VRs.nil{w:World}{σ:List OB}{xs:List Value}(h:VRs w σ [] xs):xs= []:=by
 match xs,h with
 | [],_=>rfl
theorem qrP{w:World}{ow:Nat->Prop}{v:Value}{a:AV}(h:ofV v=some a):VI w ow a v:=by
 unfold ofV at h;split at h<;>cases h<;>constructor
theorem qt8{v:Value}{a:AV}(h:ofV v=some a):v.oneCell'=true:=by
 unfold ofV at h;split at h<;>first|rfl|cases h
theorem qb8: ∀ {l:List Value} {as:List AV},qnL l=some as-> ∀(i:Nat) x,l[i]? =some x->x.oneCell'=true:=by
 intro l
 induction l with
 |nil=>intro as _ i x h;simp at h
 |cons v r ih=>
  intro as h i x hx;simp only[qnL]at h;split at h
  ·rename_i a l' ha hl;cases i with
   |zero=>simp at hx;subst hx;exact qt8 ha
   |succ i=>exact ih hl i x (by simpa using hx)
  ·cases h
theorem qdG{w:World}{ow:Nat->Prop}: ∀ {l:List Value} {as:List AV},qnL l=some as->l.length=as.length∧ ∀(i:Nat) c x,as[i]? =some c->l[i]? =some x->VI w ow c x:=by
 intro l
 induction l with
 |nil=>intro as h;cases h;exact⟨rfl,λi c x hc=>by simp at hc⟩
 |cons v r ih=>
  intro as h;simp only[qnL]at h;split at h
  ·rename_i a l' ha hl;cases h;obtain⟨h1,h2⟩:=ih hl;refine⟨by simp[h1],λi c x hc hx=> ?_⟩;cases i with
   |zero=>simp at hc hx;subst hc hx;exact qrP ha
   |succ i=>exact h2 i c x (by simpa using hc) (by simpa using hx)
  ·cases h
theorem qkD{w:World}{σ:List OB}{t:List AV}{a:Act}(hs:a.tmps.size=t.length)(ht: ∀(i:Nat) c x,t[i]? =some c->a.tmps[i]? =some x->VR w σ c x)
  {o:Operand} {x:X} (h:cvX o=some x):VR w σ (ev t x) (a.eval o):=by
 unfold cvX at h;split at h
 ·rename_i n;cases h;have hg: ∀(n:Nat) (l:List AV),zU n l=(l[n]?).getD .undef:=by
   intro n l
   induction l generalizing n with
   |nil=>cases n<;>rfl
   |cons a l ih=>cases n with
    |zero=>rfl
    |succ n=>simp[zU,ih]
  simp only[ev,hg,Act.eval];cases hc:t[n]? with
  |none=>exact qeg
  |some c=>
   have hlt:n<t.length:=(List.getElem?_eq_some_iff.1 hc).1;have hlt':n<a.tmps.size:=hs.symm▸hlt;have hx:a.tmps[n]? =some a.tmps[n]:=Array.getElem?_eq_getElem hlt'
   have:=ht n c _ hc hx
   simpa[Array.getD,hlt'] using this
 ·rename_i cs;cases hv:qnL cs.toList with
  |none=>simp[hv]at h
  |some l=>
   simp[hv]at h;subst h;obtain⟨h1,h2⟩:=qdG (w:=w) (ow:=own σ) hv;exact .imm (.agg (by simpa using h1) (λi x hx=>qb8 hv i x (by simpa using hx)) λi c x hc hx=>h2 i c x hc (by simpa using hx))
 ·rename_i cs;split at h
  ·rename_i hcs;cases h
   have:cs= #[]:=by simpa using hcs
   subst this;exact .imm (.tup rfl λi c x hc=>by simp at hc)
  ·cases h
 ·rename_i v _ _;cases hv:ofV v with
  |none=>simp[hv]at h
  |some l=>
   simp[hv]at h;subst h;exact .imm (qrP hv)
 ·rename_i f;cases h;exact .imm (.fn rfl rfl (λi c x hc=>by simp at hc) (λi c x hc=>by simp at hc))
 ·cases h
theorem qs6{w:World}{σ:List OB}{t:List AV}{a:Act}(hs:a.tmps.size=t.length)(ht: ∀(i:Nat) c x,t[i]? =some c->a.tmps[i]? =some x->VR w σ c x):
  ∀ {os:List Operand} {xs:List X},qxN os=some xs->VRs w σ (evs t xs) (os.map a.eval):=by
 intro os
 induction os with
 |nil=>intro xs h;cases h;exact⟨rfl,λi c x hc=>by simp[evs]at hc⟩
 |cons o r ih=>
  intro xs h;simp only[qxN]at h;split at h
  ·rename_i x l hx hl;cases h;have h1:=ih hl;refine⟨by simp[evs,h1.1],λi c y hc hy=> ?_⟩;cases i with
   |zero=>simp[evs]at hc hy;subst hc hy;exact qkD hs ht hx
   |succ i=>exact h1.2 i c y (by simpa[evs] using hc) (by simpa using hy)
  ·cases h
end AF
end
section
namespace AF
open Go
section run
variable {P : Program} {w : World} {t : TypeId}
theorem zC{d:TypeDesc}(h:P.underlying t=some d):(underlying t).run P w= .ok d w:=run_underlying h w
theorem qmq{i:TypeInfo}(h:P.info? t=some i):(typeInfo t).run P w= .ok i w:=by simp[typeInfo,program,Sem.run,h]
theorem jQ{i:TypeInfo}(h:P.info? t=some i):(Go.sizeOf t).run P w= .ok i.size w:=by simp[Go.sizeOf,qmq h]
theorem qbu{d:TypeDesc}(h:P.underlying t=some d):(isAgg t).run P w= .ok (qsb d) w:=by
 cases d<;>simp[isAgg,zC h,qsb]
theorem qdR{i:TypeInfo}{z:Value}(h:P.info? t=some i)(hz:i.zero=some z):(zeroValue t).run P w= .ok z w:=by simp[zeroValue,qmq h,hz]
end run
theorem qcT{P:Program}{t:TypeId}{n:Option Nat}(h:qaa P t=some n): ∃i d,P.info? t=some i∧P.underlying t=some d∧
  ((n=none∧qsb d=false)∨(n=some i.size∧qsb d=true)):=by
 unfold qaa at h;split at h
 ·rename_i d i h1 h2;cases h;refine⟨i,d,h2,h1,?_⟩;cases qsb d<;>simp
 ·cases h
theorem qbA{P:Program}{t:TypeId}{f off:Nat}{n:Option Nat}(h:km P t f=some (off,n)):
  ∃fs x i,P.underlying t=some (.struct fs)∧fs[f]? =some x∧qaa P x.type=some n∧P.info? x.type=some i∧i.size≠0∧off=x.offset:=by
 unfold km at h;split at h
 ·rename_i fs h1;split at h
  ·rename_i x hx;split at h
   ·rename_i a i ha hi;split at h
    ·cases h
    ·rename_i hz;cases h;exact⟨fs,x,i,h1,hx,ha,hi,hz,rfl⟩
   ·cases h
  ·cases h
 ·cases h
theorem qhb{P:Program}{w:World}{σ:List OB}{t:TypeId}{n:Option Nat}(h:qaa P t=some n){cs:List AV}{vs:Array Value}(hl:vs.size=cs.length)(h1: ∀(i:Nat) y,vs[i]? =some y->y.oneCell'=true)
  (hv: ∀(i:Nat) c y,cs[i]? =some c->vs[i]? =some y->VR w σ c y) {off:Nat} (hok:kv cs off n):
  ∃x,(part t vs off).run P w= .ok x w∧VR w σ (cut cs off n) x:=by
 obtain⟨i,d,hi,hd,hn⟩:=qcT h;rcases hn with⟨rfl,hd'⟩|⟨rfl,hd'⟩
 ·have h3:off<cs.length:=hok;have h2:off<vs.size:=by omega
  refine⟨vs[off],by simp[part,qbu hd,hd',h2],?_⟩
  have:=hv off cs[off] vs[off] (by simp[h3]) (by simp[h2])
  simpa[cut,h3] using this
 ·have h3:off+i.size<=cs.length:=hok;refine⟨.agg (vs.extract off (off+i.size)),by simp[part,qbu hd,hd',jQ hi],?_⟩;simp only[cut];refine .agg (by simp;omega) (λj y hy=> ?_) λj c y hc hy=> ?_
  ·rw[Array.getElem?_extract]at hy;split at hy
   ·exact h1 _ y hy
   ·cases hy
  rw[List.getElem?_take]at hc;split at hc
  ·rw[List.getElem?_drop]at hc;refine hv (off+j) c y hc ?_;rw[Array.getElem?_extract]at hy;split at hy
   ·exact hy
   ·cases hy
  ·cases hc
theorem qck(s u:List UInt8):(s==u)=decide (s=u):=by rw[Bool.eq_iff_iff];simp
theorem qn2(s u:Int):(s==u)=decide (s=u):=by rw[Bool.eq_iff_iff];simp
theorem qsg{P:Program}{w:World}{σ:List OB}{t:TypeId}{k:AK}(ht:qnZ P t=some k){a b:AV}{x y:Value}(ha:VR w σ a x)(hb:VR w σ b y){r:Bool}(hr:qbz k a b=some r)(d:Nat):
  (Op.equalIn (d+1) t x y).run P w= .ok r w:=by
 unfold qnZ at ht;cases k with
 |int=>
  cases a<;>cases b<;>simp[qbz]at hr
  have:=zV ha;subst this
  have:=zV hb;subst this
  obtain⟨rfl,rfl⟩:=hr;split at ht<;>simp at ht;rename_i h;rw[run_equalIn_int w d t _ _ _ _ h,qn2]
 |bool=>
  cases a<;>cases b<;>simp[qbz]at hr
  have:=jT ha;subst this
  have:=jT hb;subst this
  subst hr;split at ht<;>simp at ht;rename_i h;rw[run_equalIn_bool' w d t _ _ h]
 |str=>
  cases a<;>cases b<;>simp[qbz]at hr
  have:=kg ha;subst this
  have:=kg hb;subst this
  subst hr;split at ht<;>simp at ht;rename_i h;rw[run_equalIn_string w d t _ _ h,ByteArray.toList_mk,ByteArray.toList_mk,qck]
theorem qn0{P:Program}{w:World}{σ:List OB}{xs ys:Array Value}(d:Nat): ∀(fs:List Field) (n:Nat) (ks:List AK) (as bs:List AV) (r:Bool),qep P n fs=some ks->zO ks as bs=some r->
  (∀(i:Nat) c,as[i]? =some c-> ∃y,xs[n+i]? =some y∧VR w σ c y)->(∀(i:Nat) c,bs[i]? =some c-> ∃y,ys[n+i]? =some y∧VR w σ c y)->
  (Op.eqFields (d+1) xs ys fs).run P w= .ok r w:=by
 intro fs
 induction fs with
 |nil=>
  intro n ks as bs r h1 h2 _ _;cases h1;cases as<;>cases bs<;>simp[zO]at h2;subst h2;rfl
 |cons f fs ih=>
  intro n ks as bs r h1 h2 ha hb;simp only[qep]at h1;split at h1
  ·rename_i k l hk hl;split at h1
   ·rename_i hf;cases h1;cases as with
    |nil=>simp[zO]at h2
    |cons a as=>
     cases bs with
     |nil=>simp[zO]at h2
     |cons b bs=>
      simp only[zO]at h2;split at h2
      ·rename_i p q hp hq;cases h2;simp only[Bool.and_eq_true,decide_eq_true_eq,bne_iff_ne]at hf;obtain⟨y,hy,hy'⟩:=ha 0 a rfl;obtain⟨z,hz,hz'⟩:=hb 0 b rfl;have hag: ∃dd,P.underlying f.type=some dd∧qsb dd=false:=by
        unfold qnZ at hk;split at hk<;>first|exact⟨_,‹_›,rfl⟩|cases hk
       obtain⟨dd,hd1,hd2⟩:=hag;have hy0:xs[n]? =some y:=by simpa using hy
       have hz0:ys[n]? =some z:=by simpa using hz
       have e1:(part f.type xs f.offset).run P w= .ok y w:=by simp[part,qbu hd1,hd2,hf.1,hy0]
       have e2:(part f.type ys f.offset).run P w= .ok z w:=by simp[part,qbu hd1,hd2,hf.1,hz0]
       have e3:=qsg hk hy' hz' hp d;have e4:=ih (n+1) l as bs q hl hq (λi c hc=>by have:=ha (i+1) c (by simpa using hc);rwa [show n+(i+1)=n+1+i from by omega]at this)
        (λi c hc=>by have:=hb (i+1) c (by simpa using hc);rwa [show n+(i+1)=n+1+i from by omega]at this)
       simp only[Op.eqFields,hf.2,ne_eq,not_false_eq_true,if_true,Sem.run_bind,e1,e2,e3,Result.andThen_ok];cases p
       ·simp
       ·simpa using e4
      ·cases h2
   ·cases h1
  ·cases h1
theorem qi9(s u:List UInt8):(ByteArray.mk s.toArray)++(ByteArray.mk u.toArray)=ByteArray.mk (s++u).toArray:=by
 apply ByteArray.ext;simp
theorem qhw(s:List UInt8)(a c:Nat):(ByteArray.mk s.toArray).extract a c=ByteArray.mk ((s.drop a).take (c-a)).toArray:=by
 apply ByteArray.ext;simp[ByteArray.data_extract,List.take_drop,List.extract_eq_take_drop]
theorem qv2(s:List UInt8)(i:Nat):(ByteArray.mk s.toArray)[i]? =s[i]? :=by
 by_cases h:i<s.length
 ·have h':i<(ByteArray.mk s.toArray).size:=by simpa[ByteArray.size] using h
  rw[getElem?_pos _ i h',List.getElem?_eq_getElem h];rfl
 ·have h': ¬i<(ByteArray.mk s.toArray).size:=by simpa[ByteArray.size] using h
  rw[getElem?_neg _ i h',List.getElem?_eq_none (by omega)]
theorem qcj(s:List UInt8):(ByteArray.mk s.toArray).size=s.length:=by simp[ByteArray.size]
theorem qsi{P:Program}{w:World}{σ:List OB}{op:BinOp}{t:TypeId}{x y:AV}{u v:Value}(hx:VR w σ x u)(hy:VR w σ y v)(hok:UN op x y):
  ∃z,(Go.binOp op t u v).run P w= .ok z w∧VR w σ (UJ op x y) z:=by
 cases x<;>cases y<;>simp only[UN]at hok
 case int.int k a k' b=>
  have:=zV hx;subst this
  have:=zV hy;subst this
  cases op<;>simp only at hok
  case quo=>obtain⟨rfl,hb⟩:=hok;exact⟨_,by simp[Go.binOp,Op.intDiv,hb],qec⟩
  case rem=>obtain⟨rfl,hb⟩:=hok;exact⟨_,by simp[Go.binOp,Op.intDiv,hb],qec⟩
  case shl=>exact⟨_,by simp[Go.binOp,Op.shift,Int.not_lt.2 hok],qec⟩
  case shr=>exact⟨_,by simp[Go.binOp,Op.shift,Int.not_lt.2 hok],qec⟩
  all_goals subst hok
  case add=>exact⟨_,by simp[Go.binOp,Op.intArith],qec⟩
  case sub=>exact⟨_,by simp[Go.binOp,Op.intArith],qec⟩
  case mul=>exact⟨_,by simp[Go.binOp,Op.intArith],qec⟩
  case and=>exact⟨_,by simp[Go.binOp,Op.intBits],qec⟩
  case or=>exact⟨_,by simp[Go.binOp,Op.intBits],qec⟩
  case xor=>exact⟨_,by simp[Go.binOp,Op.intBits],qec⟩
  case andNot=>exact⟨_,by simp[Go.binOp,Op.intBits],qec⟩
  case eql=>exact⟨.bool (decide (a=b)),by simp[Go.binOp,Op.intCmp];rfl,qdm⟩
  case neq=>exact⟨.bool (!decide (a=b)),by simp[Go.binOp,Op.intCmp];rfl,qdm⟩
  case lss=>exact⟨.bool (decide (a<b)),by simp[Go.binOp,Op.intCmp],qdm⟩
  case leq=>exact⟨.bool (decide (a<=b)),by simp[Go.binOp,Op.intCmp],qdm⟩
  case gtr=>exact⟨.bool (decide (b<a)),by simp[Go.binOp,Op.intCmp],qdm⟩
  case geq=>exact⟨.bool (decide (b<=a)),by simp[Go.binOp,Op.intCmp],qdm⟩
 case str.str s u'=>
  have:=kg hx;subst this
  have:=kg hy;subst this
  cases op<;>simp only at hok
  case add=>
   refine⟨.string ⟨(s++u').toArray⟩,?_,qCm⟩;have h1: ¬(((((ByteArray.mk s.toArray).size+(ByteArray.mk u'.toArray).size:Nat):Int))>IntKind.i64.max):=by
    have:IntKind.i64.max=9223372036854775807:=rfl
    rw[qcj,qcj];omega
   simp only[Go.binOp,Op.stringOp,if_neg h1,qi9,Sem.run_pure]
  case eql=>exact⟨.bool (decide (s=u')),by simp[Go.binOp,Op.stringOp,qck],qdm⟩
  case neq=>exact⟨.bool (!decide (s=u')),by simp[Go.binOp,Op.stringOp,qck],qdm⟩
  case lss=>exact⟨.bool (Op.bytesLess s u'),by simp[Go.binOp,Op.stringOp],qdm⟩
  case leq=>exact⟨.bool (Op.bytesLess s u'||decide (s=u')),by simp[Go.binOp,Op.stringOp,qck],qdm⟩
  case gtr=>exact⟨.bool (!(Op.bytesLess s u'||decide (s=u'))),by simp[Go.binOp,Op.stringOp,qck],qdm⟩
  case geq=>exact⟨.bool (!Op.bytesLess s u'),by simp[Go.binOp,Op.stringOp],qdm⟩
section nils
variable {P : Program} {w : World} {t : TypeId} (n : Nat)
theorem qkJ{e:TypeId}(hd:P.underlying t=some (.pointer e))(a:Option Addr):(Op.equalIn (n+1) t (.pointer a) (.pointer none)).run P w= .ok a.isNone w∧(Op.equalIn (n+1) t (.pointer none) (.pointer a)).run P w= .ok a.isNone w:=by
 cases a<;>constructor<;>simp only[Op.equalIn,Sem.run_bind,zC hd,Result.andThen_ok,Sem.run_pure,Option.isNone]
theorem qcq{m:Array (String×TypeId)}(hd:P.underlying t=some (.interface m)):(Op.equalIn (n+1) t .nilIface .nilIface).run P w= .ok true w∧ ∀u v,(Op.equalIn (n+1) t (.iface u v) .nilIface).run P w= .ok false w∧(Op.equalIn (n+1) t .nilIface (.iface u v)).run P w= .ok false w:=by
 refine⟨?_,λu v=>⟨?_,?_⟩⟩<;>simp only[Op.equalIn,Sem.run_bind,zC hd,Result.andThen_ok,Sem.run_pure]
theorem qdx{p r:Array TypeId}{v:Bool}(hd:P.underlying t=some (.func p r v)):(Op.equalIn (n+1) t .nilFunc .nilFunc).run P w= .ok true w∧ ∀f a b,(Op.equalIn (n+1) t (.func f a b) .nilFunc).run P w= .ok false w∧(Op.equalIn (n+1) t .nilFunc (.func f a b)).run P w= .ok false w:=by
 refine⟨?_,λu v a=>⟨?_,?_⟩⟩<;>simp only[Op.equalIn,Sem.run_bind,zC hd,Result.andThen_ok,Sem.run_pure]
theorem qaI{e:TypeId}(hd:P.underlying t=some (.slice e)):(Op.equalIn (n+1) t (.slice none 0 0) (.slice none 0 0)).run P w= .ok true w:=by
 simp only[Op.equalIn,Sem.run_bind,zC hd,Result.andThen_ok,Sem.run_pure,Option.isNone]
theorem qbg{e:TypeId}(hd:P.underlying t=some (.slice e))(a:Addr)(m c:Nat):(Op.equalIn (n+1) t (.slice (some a) m c) (.slice none 0 0)).run P w= .ok false w∧(Op.equalIn (n+1) t (.slice none 0 0) (.slice (some a) m c)).run P w= .ok false w:=by
 constructor<;>simp only[Op.equalIn,Sem.run_bind,zC hd,Result.andThen_ok,Sem.run_pure,Option.isNone]
end nils
def qvH:Value->Value->Bool
 | .int ..,.int .. | .float ..,.float .. | .complex ..,.complex .. | .string _,.string _=>false
 |_,_=>true
theorem qjT{P:Program}{w:World}{t:TypeId}{x y:Value}{b:Bool}(ho:qvH x y=true)(h:(Op.equalIn 10000 t x y).run P w= .ok b w):
  (Go.binOp .eql t x y).run P w= .ok (.bool b) w∧(Go.binOp .neq t x y).run P w= .ok (.bool (!b)) w:=by
 have he:(Op.equal t x y).run P w= .ok b w:=h;constructor<;>(unfold Go.binOp;split<;>simp_all [qvH])
theorem qlp{P:Program}{w:World}{σ:List OB}{t:TypeId}{a:AV}{x:Value}{d:TypeDesc}{k:NK}(hd:P.underlying t=some d)(hk:qrO d=some k)(ha:VR w σ a x)
  {b:Bool} (hb:zI k a=some b) {v:Value} (hv:gz k (.const v)=true) (n:Nat):
  ((Op.equalIn (n+1) t x v).run P w= .ok b w∧(Op.equalIn (n+1) t v x).run P w= .ok b w)∧qvH x v=true∧qvH v x=true∧(∀xs,v≠ .agg xs):=by
 cases k with
 |ptr=>
  have hv':v= .pointer none:=by
   unfold gz at hv;split at hv<;>simp_all
  subst hv';cases d<;>simp[qrO]at hk;cases a<;>simp[zI]at hb<;>subst hb
  ·obtain⟨b,off,vals,rfl,_⟩:=qiY ha;exact⟨qkJ n hd _,rfl,rfl,by simp⟩
  ·have:=qed ha;subst this;exact⟨qkJ n hd _,rfl,rfl,by simp⟩
 |func=>
  have hv':v= .nilFunc:=by
   unfold gz at hv;split at hv<;>simp_all
  subst hv';cases d<;>simp[qrO]at hk;cases a<;>simp[zI]at hb<;>subst hb
  ·obtain⟨vs,us,rfl,_⟩:=qgo ha;exact⟨(qdx n hd).2 _ _ _,rfl,rfl,by simp⟩
  ·have:=qhq ha;subst this;exact⟨⟨(qdx n hd).1,(qdx n hd).1⟩,rfl,rfl,by simp⟩
 |iface=>
  have hv':v= .nilIface:=by
   unfold gz at hv;split at hv<;>simp_all
  subst hv';cases d<;>simp[qrO]at hk;cases a<;>simp[zI]at hb<;>subst hb
  ·obtain⟨u,z,rfl⟩:=qr3 ha;exact⟨(qcq n hd).2 _ _,rfl,rfl,by simp⟩
  ·have:=qhr ha;subst this;exact⟨⟨(qcq n hd).1,(qcq n hd).1⟩,rfl,rfl,by simp⟩
 |slice=>
  have hv':v= .slice none 0 0:=by
   unfold gz at hv;split at hv<;>simp_all
  subst hv';cases d<;>simp[qrO]at hk;cases a<;>simp[zI]at hb<;>subst hb
  ·have:=qee ha;subst this;exact⟨⟨qaI n hd,qaI n hd⟩,rfl,rfl,by simp⟩
  ·obtain⟨a,cap,rfl,_⟩:=qqY ha;exact⟨qbg n hd _ _ _,rfl,rfl,by simp⟩
end AF
end
section
namespace AF
open Go
section
variable {P : Program} {js : List Tmp} {imp : List FuncId} {w : World} {σ : List OB}
def zK(P:Program)(w:World)(σ:List OB)(ρ:Operand->Value)(o:Oper)(v:AV):Prop:= ∃x,(execOp ρ o).run P w= .ok (.value x) w∧VR w σ v x
theorem qpT{o:Oper}{x:Operand}(ho:o.op= .move x∨o.op= .assign x){vs:List AV}{ρ:Operand->Value}(hv:VRs w σ vs [ρ x])(hok:okP .mv vs):zK P w σ ρ o (valP .mv vs):=by
 match vs,hv,hok with
 | [v],hv,_=>
  obtain⟨y,hy,hr⟩:=hv.one;cases hy;refine⟨ρ x,?_,hr⟩;rcases ho with ho|ho<;>simp[execOp,ho]
theorem W1{op:BinOp}{t:TypeId}{x y:Operand}{a b:Value}(h: ∀xs ys,a= .agg xs->b= .agg ys->False)(h':a= .nilIface->b= .nilIface->(∃v,x= .const v)∨ ∃v,y= .const v):
  (eqGuard op t x y a b).run P w= .ok () w:=by
 cases op<;>simp only[eqGuard]<;>try rfl
 all_goals
  cases a<;>cases b<;>try rfl
  ·rcases h' rfl rfl with⟨v,rfl⟩|⟨v,rfl⟩<;>simp
  ·exact (h _ _ rfl rfl).elim
theorem qrU{o:Oper}{op:BinOp}{t u:TypeId}{x y:Operand}(ho:o.op= .binOp op t x y u){vs:List AV}{ρ:Operand->Value}(hv:VRs w σ vs [ρ x,ρ y])(hok:okP (.bin op) vs):
  zK P w σ ρ o (valP (.bin op) vs):=by
 match vs,hv,hok with
 | [a,b],hv,hok=>
  obtain⟨p,q,hpq,ha,hb⟩:=hv.two;cases hpq;obtain⟨z,hz,hr⟩:=qsi (P:=P) (t:=t) ha hb hok;refine⟨z,?_,hr⟩;have hg:(eqGuard op t x y (ρ x) (ρ y)).run P w= .ok () w:=by
   refine W1 (λxs ys e1 e2=> ?_) (λe1 e2=> ?_)
   ·rw[e1]at ha;rw[e2]at hb;cases a<;>cases b<;>simp only[okP,UN]at hok
    ·cases zV ha
    ·cases kg ha
   ·rw[e1]at ha;cases a<;>cases b<;>simp only[okP,UN]at hok
    ·cases zV ha
    ·cases kg ha
  simp[execOp,ho,hg,hz]
theorem qmb{o:Oper}{op:BinOp}{t u:TypeId}{x y:Operand}{n:Bool}(ho:o.op= .binOp op t x y u)(ht:P.underlying t=some .bool)(hn:(op= .eql∧n=false)∨(op= .neq∧n=true)){vs:List AV}{ρ:Operand->Value}
  (hv:VRs w σ vs [ρ x,ρ y]) (hok:okP (.bool n) vs):zK P w σ ρ o (valP (.bool n) vs):=by
 match vs,hv,hok with
 | [.bool a,.bool b],hv,hok=>
  obtain⟨p,q,hpq,ha,hb⟩:=hv.two;cases hpq;have ea:=jT ha;have eb:=jT hb;refine⟨.bool (n !=(a==b)),?_,qdm⟩;have hg:(eqGuard op t x y (ρ x) (ρ y)).run P w= .ok () w:=by
   refine W1 (λxs ys e1 e2=> ?_) (λe1 e2=> ?_)
   ·rw[ea]at e1;cases e1
   ·rw[ea]at e1;cases e1
  have he:=qjT (P:=P) (w:=w) (t:=t) (x:=ρ x) (y:=ρ y) (b:=a==b) (by rw[ea,eb];rfl) (by rw[ea,eb];exact run_equalIn_bool' w 9999 t a b ht);rcases hn with⟨rfl,rfl⟩|⟨rfl,rfl⟩
  ·simp[execOp,ho,hg,he.1]
  ·simp[execOp,ho,hg,he.2]
theorem qDU{o:Oper}{op:UnOp}{t:TypeId}{x:Operand}(ho:o.op= .unOp op t x){vs:List AV}{ρ:Operand->Value}(hv:VRs w σ vs [ρ x])(hok:okP (.un op) vs):zK P w σ ρ o (valP (.un op) vs):=by
 cases op with
 |not=>
  match vs,hv,hok with
  | [.bool b],hv,hok=>
   obtain⟨p,hp,ha⟩:=hv.one;cases hp;have ea:=jT ha;exact⟨.bool (!b),by simp[execOp,ho,ea,Op.unary],qdm⟩
 |neg=>
  match vs,hv,hok with
  | [.int k n],hv,hok=>
   obtain⟨p,hp,ha⟩:=hv.one;cases hp;have ea:=zV ha;exact⟨.int k (k.wrap (0-n)),by simp[execOp,ho,ea,Op.unary,Op.intArith],qec⟩
 |xor=>exact hok.elim
 |plus=>exact hok.elim
theorem qut{o:Oper}{s d:TypeId}{x:Operand}{k j:IntKind}(ho:o.op= .convert s d x)(hs:P.underlying s=some (.int j))(hd:P.underlying d=some (.int k)){vs:List AV}{ρ:Operand->Value}(hv:VRs w σ vs [ρ x])
  (hok:okP (.conv k) vs):zK P w σ ρ o (valP (.conv k) vs):=by
 match vs,hv,hok with
 | [.int l n],hv,hok=>
  obtain⟨p,hp,ha⟩:=hv.one;cases hp;have ea:=zV ha;exact⟨.int k (k.wrap n),by simp[execOp,ho,ea,convert,zC hs,zC hd,Conv.intToInt],qec⟩
theorem qb7{o:Oper}{op:BinOp}{t u:TypeId}{x y:Operand}{n b:Bool}(ho:o.op= .binOp op t x y u)(hn:(op= .eql∧n=false)∨(op= .neq∧n=true))
  {z:Operand} {c:Value} (hz:(z=x∧ .const c=y)∨(z=y∧ .const c=x)) {ρ:Operand->Value} (hρ: ∀c,ρ (.const c)=c)
  (h:((Op.equalIn 10000 t (ρ z) c).run P w= .ok b w∧(Op.equalIn 10000 t c (ρ z)).run P w= .ok b w)∧qvH (ρ z) c=true∧qvH c (ρ z)=true∧(∀xs,c≠ .agg xs)):(execOp ρ o).run P w= .ok (.value (.bool (n !=b))) w:=by
 obtain⟨⟨h1,h2⟩,h3,h4,h5⟩:=h;have hg:(eqGuard op t x y (ρ x) (ρ y)).run P w= .ok () w:=by
  refine W1 (λxs ys e1 e2=> ?_) (λ_ _=> ?_)
  ·rcases hz with⟨rfl,rfl⟩|⟨rfl,rfl⟩
   ·rw[hρ]at e2;exact h5 _ e2
   ·rw[hρ]at e1;exact h5 _ e1
  ·rcases hz with⟨rfl,rfl⟩|⟨rfl,rfl⟩
   ·exact .inr ⟨_,rfl⟩
   ·exact .inl ⟨_,rfl⟩
 have hbin:(Go.binOp .eql t (ρ x) (ρ y)).run P w= .ok (.bool b) w∧(Go.binOp .neq t (ρ x) (ρ y)).run P w= .ok (.bool (!b)) w:=by
  rcases hz with⟨rfl,rfl⟩|⟨rfl,rfl⟩
  ·rw[hρ];exact qjT h3 h1
  ·rw[hρ];exact qjT h4 h2
 rcases hn with⟨rfl,rfl⟩|⟨rfl,rfl⟩
 ·simp[execOp,ho,hg,hbin.1]
 ·simp[execOp,ho,hg,hbin.2]
theorem qpS{o:Oper}{op:BinOp}{t u:TypeId}{x y:Operand}{d:TypeDesc}{k:NK}{n:Bool}(ho:o.op= .binOp op t x y u)(hd:P.underlying t=some d)(hk:qrO d=some k)(hn:(op= .eql∧n=false)∨(op= .neq∧n=true))
  {z v:Operand} (hz:(z=x∧v=y)∨(z=y∧v=x)) (hv0:gz k v=true) {vs:List AV} {ρ:Operand->Value} (hρ: ∀c,ρ (.const c)=c) (hv:VRs w σ vs [ρ z]) (hok:okP (.isnil k n) vs):zK P w σ ρ o (valP (.isnil k n) vs):=by
 have hvc: ∃c,v= .const c:=by
  unfold gz at hv0;split at hv0<;>first|exact⟨_,rfl⟩|cases hv0
 obtain⟨c,rfl⟩:=hvc
 match vs,hv,hok with
 | [a],hv,hok=>
  obtain⟨p,hp,ha⟩:=hv.one;cases hp;have plain: ∀b,zI k a=some b->(execOp ρ o).run P w= .ok (.value (.bool (n !=b))) w:=λb hb=>qb7 ho hn hz hρ (qlp hd hk ha hb hv0 9999 (P:=P))
  by_cases hsl:k= .slice∧ ∃m f,a= .sl m f
  ·obtain⟨rfl,m,f,rfl⟩:=hsl;have hvv:c= .slice none 0 0:=by
    unfold gz at hv0;split at hv0<;>simp_all
   subst hvv;have hd': ∃e,d= .slice e:=by
    cases d<;>simp[qrO]at hk;exact⟨_,rfl⟩
   obtain⟨e,rfl⟩:=hd';have hval:valP (.isnil .slice n) [.sl m f]=if m=0 then .anyb else .bool (n !=false):=rfl
   rw[hval];rcases qfg ha with⟨rfl,a0,hx⟩|⟨sz,b,off,cap,vals,hx,_⟩
   ·cases a0 with
    |some a1=>
     have:=qb7 ho hn hz hρ (b:=false) (P:=P) (w:=w) (by rw[hx];exact⟨qbg 9999 hd _ _ _,rfl,rfl,by simp⟩)
     exact⟨_,this,.imm .anyb⟩
    |none=>
    have:=qb7 ho hn hz hρ (b:=true) (P:=P) (w:=w) (by rw[hx];exact⟨⟨qaI 9999 hd,qaI 9999 hd⟩,rfl,rfl,by simp⟩)
    exact⟨_,this,.imm .anyb⟩
   ·have:=qb7 ho hn hz hρ (b:=false) (P:=P) (w:=w) (by rw[hx];exact⟨qbg 9999 hd _ _ _,rfl,rfl,by simp⟩)
    refine⟨_,this,?_⟩;split
    ·exact .imm .anyb
    ·exact qdm
  ·have hval:valP (.isnil k n) [a]= .bool (n !=(zI k a).getD false):=by
    unfold valP;split<;>simp_all
   have hok':(zI k a).isSome=true:=by
    unfold okP at hok;split at hok<;>simp_all
   obtain⟨b,hb⟩:=Option.isSome_iff_exists.1 hok';exact⟨_,plain b hb,by rw[hval,hb,Option.getD_some];exact qdm⟩
theorem qrT{o:Oper}{op:BinOp}{t u:TypeId}{x y:Operand}{fs:Array Field}{ks:List AK}{n:Bool}(ho:o.op= .binOp op t x y u)(hd:P.underlying t=some (.struct fs))(hks:qep P 0 fs.toList=some ks)
  (hs:P.stoodInHeld t=false) (hq:P.eqGuardType P.depth t=false) (hn:(op= .eql∧n=false)∨(op= .neq∧n=true)) {vs:List AV} {ρ:Operand->Value} (hv:VRs w σ vs [ρ x,ρ y]) (hok:okP (.aeq ks n) vs):
  zK P w σ ρ o (valP (.aeq ks n) vs):=by
 match vs,hv,hok with
 | [.agg a,.agg b],hv,hok=>
  obtain⟨p,q,hpq,ha,hb⟩:=hv.two;cases hpq;obtain⟨xs,ea,la,oa,ha⟩:=qbR ha;obtain⟨ys,eb,lb,ob,hb⟩:=qbR hb;cases hr:zO ks a b with
  |none=>simp[okP,hr]at hok
  |some r=>
   have hf:P.fieldsOf t=fs:=by simp[Program.fieldsOf,hd]
   have he:(Op.equalIn 10000 t (.agg xs) (.agg ys)).run P w= .ok r w:=by
    rw[run_equalIn_agg w 9999 t xs ys (by rw[hf];exact hd) hs,hf];refine qn0 (σ:=σ) 9998 fs.toList 0 ks a b r hks hr (λi c hc=> ?_) (λi c hc=> ?_)
    ·have hi:i<a.length:=(List.getElem?_eq_some_iff.1 hc).1;have hx:xs[i]? =some xs[i]:=Array.getElem?_eq_getElem (by omega);exact⟨xs[i],by rw[Nat.zero_add];exact hx,ha i c _ hc hx⟩
    ·have hi:i<b.length:=(List.getElem?_eq_some_iff.1 hc).1;have hx:ys[i]? =some ys[i]:=Array.getElem?_eq_getElem (by omega);exact⟨ys[i],by rw[Nat.zero_add];exact hx,hb i c _ hc hx⟩
   refine⟨.bool (n !=r),?_,by simp only[valP,hr,Option.getD_some];exact qdm⟩;rcases hn with⟨rfl,rfl⟩|⟨rfl,rfl⟩
   ·simp[execOp,ho,ea,eb,run_eqGuard_agg w _ t x y xs ys hq,run_eql_struct w t xs ys,he]
   ·simp[execOp,ho,ea,eb,run_eqGuard_agg w _ t x y xs ys hq,run_neq_struct w t xs ys,he]
theorem qAJ{o:Oper}{t:TypeId}{x:Operand}{f off:Nat}{n:Option Nat}(ho:o.op= .field t x f)(hf:km P t f=some (off,n)){vs:List AV}{ρ:Operand->Value}(hv:VRs w σ vs [ρ x])(hok:okP (.fld off n) vs):
  zK P w σ ρ o (valP (.fld off n) vs):=by
 match vs,hv,hok with
 | [.agg a],hv,hok=>
  obtain⟨p,hp,ha⟩:=hv.one;cases hp;obtain⟨xs,ea,la,oa,ha⟩:=qbR ha;obtain⟨fs,fx,i,hu,hx,hag,hi,hz,rfl⟩:=qbA hf;obtain⟨z,hz1,hz2⟩:=qhb (P:=P) hag la oa ha hok;exact⟨z,by simp[execOp,ho,ea,Instr.field,zC hu,hx,asAgg,hz1],hz2⟩
theorem qAI{o:Oper}{x:Operand}{i:Nat}(ho:o.op= .extract x i){vs:List AV}{ρ:Operand->Value}(hv:VRs w σ vs [ρ x])(hok:okP (.ext i) vs):zK P w σ ρ o (valP (.ext i) vs):=by
 match vs,hv,hok with
 | [.tup a],hv,hok=>
  obtain⟨p,hp,ha⟩:=hv.one;cases hp;obtain⟨xs,ea,la,ha⟩:=qfh ha;have h1:i<a.length:=hok;have h2:i<xs.size:=by omega
  have hx:xs[i]? =some xs[i]:=Array.getElem?_eq_getElem h2;refine⟨xs[i],by simp[execOp,ho,ea,Instr.extract,hx],?_⟩
  have:=ha i a[i] xs[i] (by simp[h1]) hx
  simpa[valP,h1] using this
theorem quu{o:Oper}{f:Fn}{first cap:Array Operand}(ho:o.op= .makeFunc f first cap){vs:List AV}{ρ:Operand->Value}(hv:VRs w σ vs ((first.toList++cap.toList).map ρ))(hok:okP (.mkfn f first.size) vs):
  zK P w σ ρ o (valP (.mkfn f first.size) vs):=by
 have hlen:=hv.1;simp at hlen;refine⟨.func f (first.map ρ) (cap.map ρ),by simp[execOp,ho,Instr.makeFunc],?_⟩;have hval:valP (.mkfn f first.size) vs= .fn f (vs.take first.size) (vs.drop first.size):=by cases vs<;>rfl
 rw[hval];refine .fn (by simp;omega) (by simp;omega) (λi c y hc hy=> ?_) (λi c y hc hy=> ?_)
 ·rw[List.getElem?_take]at hc;split at hc
  ·rename_i hi;refine hv.2 i c y hc ?_;rw[List.map_append,List.getElem?_append_left (by simpa using hi)];simpa using hy
  ·cases hc
 ·rw[List.getElem?_drop]at hc;refine hv.2 _ c y hc ?_;rw[List.map_append,List.getElem?_append_right (by simp)];simpa using hy
theorem quw{o:Oper}{c:Call}{x:Operand}{t:TypeId}(ho:o.op= .call c)(hb:c.callee= .builtin .len)(ha:c.args.toList= [x])(ht:c.argTypes.toList= [t])(hty:P.underlying t=some .string)
  {vs:List AV} {ρ:Operand->Value} (hv:VRs w σ vs [ρ x]) (hok:okP .slen vs):zK P w σ ρ o (valP .slen vs):=by
 have e1:c.args= #[x]:=by rw[<-ha]
 have e2:c.argTypes= #[t]:=by rw[<-ht]
 match vs,hv,hok with
 | [.str s],hv,hok=>
  obtain⟨p,hp,ha⟩:=hv.one;cases hp;have hx:=kg ha;exact⟨.int .i64 s.length,by simp[execOp,ho,resolve,hb,invoke,Go.builtin,Builtin.len_,e1,e2,zC hty,hx,goInt,qcj],qec⟩
theorem quv{o:Oper}{t:TypeId}{x i:Operand}(ho:o.op= .index t x i)(ht:P.underlying t=some .string){vs:List AV}{ρ:Operand->Value}(hv:VRs w σ vs [ρ x,ρ i])(hok:okP .sidx vs):zK P w σ ρ o (valP .sidx vs):=by
 match vs,hv,hok with
 | [.str s,.int k n],hv,hok=>
  obtain⟨p,q,hp,ha,hb⟩:=hv.two;cases hp;have ea:=kg ha;have eb:=zV hb;have h1:0<=n∧n<s.length:=hok;have h2:n.toNat<s.length:=by omega
  refine⟨.int .u8 s[n.toNat].toNat,?_,?_⟩
  ·simp[execOp,ho,ea,eb,Instr.index,zC ht,asIntOf,h1.1,qv2,h2]
  ·have:valP .sidx [.str s,.int k n]= .int .u8 s[n.toNat].toNat:=by simp[valP,h2]
   rw[this];exact qec
theorem qus{o:Oper}{t e:TypeId}{len:Nat}{n:Option Nat}{d:TypeInfo}{x i:Operand}(ho:o.op= .index t x i)(ht:P.underlying t=some (.array len e))(ha:qaa P e=some n)(hd:P.info? e=some d){vs:List AV}{ρ:Operand->Value}(hv:VRs w σ vs [ρ x,ρ i])(hok:okP (.aidx len d.size n) vs):zK P w σ ρ o (valP (.aidx len d.size n) vs):=by
 match vs,hv,hok with
 | [.agg cs,.int k m],hv,hok=>
  obtain⟨p,q,hp,h1,h2⟩:=hv.two;cases hp;obtain⟨xs,ea,la,oa,hx⟩:=qbR h1;have eb:=zV h2;obtain⟨h3,h4⟩:(0<=m∧m<len)∧kv cs (m.toNat*d.size) n:=hok;obtain⟨z,hz1,hz2⟩:=qhb (P:=P) ha la oa hx h4;exact⟨z,by simp[execOp,ho,ea,eb,Instr.index,zC ht,jQ hd,asIntOf,h3,hz1],hz2⟩
theorem qaY{k:IntKind}{n:Int}{y:Nat}{code:BoundsCode}(h0:0<=n)(h1:n<=y):(Instr.sliceBound (.int k n) y code).run P w= .ok n.toNat w:=by
 simp[Instr.sliceBound,asIntOf,h0,h1]
theorem qdf{s:Bool}{len cap:Nat}{lo hi:Option Operand}{bs:List AV}{ρ:Operand->Value}(hv:VRs w σ bs ((qfl lo++qfl hi).map ρ))(hi':qcs bs)(hl:0<=loB lo.isSome bs)(hlh:loB lo.isSome bs<=hiB lo.isSome hi.isSome len bs)
  (hh:hiB lo.isSome hi.isSome len bs<=cap):(Instr.sliceBounds s len cap (lo.map ρ) (hi.map ρ) none).run P w= .ok ((loB lo.isSome bs).toNat,(hiB lo.isSome hi.isSome len bs).toNat,cap) w:=by
 cases lo with
 |none=>
  cases hi with
  |none=>
   have h0:bs= []:=List.length_eq_zero_iff.1 (by have:=hv.1;simpa[qfl] using this.symm);subst h0;simp[Instr.sliceBounds,loB,hiB]
  |some h=>
   obtain⟨p,r,hp,ha,hr⟩: ∃p r,bs= [p]∧VR w σ p (ρ h)∧r=():=by
    match bs,hv with
    | [a],hv=>obtain⟨x,hx,h1⟩:=hv.one;simp[qfl]at hx;subst hx;exact⟨a,(),rfl,h1,rfl⟩
   subst hp;cases p<;>simp[qcs]at hi';have eh:=zV ha;simp[loB,hiB]at hl hlh hh ⊢;cases s<;>simp[Instr.sliceBounds,eh,qaY hlh hh]
 |some l=>
  cases hi with
  |none=>
   obtain⟨p,r,hp,ha,hr⟩: ∃p r,bs= [p]∧VR w σ p (ρ l)∧r=():=by
    match bs,hv with
    | [a],hv=>obtain⟨x,hx,h1⟩:=hv.one;simp[qfl]at hx;subst hx;exact⟨a,(),rfl,h1,rfl⟩
   subst hp;cases p<;>simp[qcs]at hi';have eh:=zV ha;simp[loB,hiB]at hl hlh hh ⊢;cases s<;>simp[Instr.sliceBounds,eh,qaY hl hlh]
  |some h=>
   obtain⟨p,q,hp,ha,hb⟩: ∃p q,bs= [p,q]∧VR w σ p (ρ l)∧VR w σ q (ρ h):=by
    match bs,hv with
    | [a,b],hv=>obtain⟨x,y,hx,h1,h2⟩:=hv.two;simp[qfl]at hx;obtain⟨rfl,rfl⟩:=hx;exact⟨a,b,rfl,h1,h2⟩
   subst hp;cases p<;>cases q<;>simp[qcs]at hi';have el:=zV ha;have eh:=zV hb;rename_i k1 n1 k2 n2;simp[loB,hiB]at hl hlh hh ⊢;have h3:n1<=(n2.toNat:Int):=by omega
   cases s<;>simp[Instr.sliceBounds,el,eh,qaY (P:=P) (w:=w) (k:=k2) (by omega:(0:Int)<=n2) hh,qaY (P:=P) (w:=w) (k:=k1) hl h3]
theorem qux{o:Oper}{t:TypeId}{x:Operand}{lo hi:Option Operand}(ho:o.op= .slice t x lo hi none)(ht:P.underlying t=some .string){vs:List AV}{ρ:Operand->Value}(hv:VRs w σ vs ((x::(qfl lo++qfl hi)).map ρ))
  (hok:okP (.sslc lo.isSome hi.isSome) vs):zK P w σ ρ o (valP (.sslc lo.isSome hi.isSome) vs):=by
 match vs,hv,hok with
 | .str s::bs,hv,hok=>
  obtain⟨p,r,hp,ha,hr⟩:=hv.cons;simp at hp;obtain⟨rfl,rfl⟩:=hp;have ea:=kg ha;obtain⟨h1,_,h3,h4,h5⟩:=hok;have hb:=qdf (P:=P) (s:=false) (len:=s.length) (cap:=s.length) (lo:=lo) (hi:=hi) (ρ:=ρ) (by simpa using hr) h1 h3 h4 h5;refine⟨_,?_,qCm⟩;simp[execOp,ho,ea,Instr.sliceAt,Instr.slice,zC ht,qcj,hb,qhw]
theorem qeJ{k:IntKind}{n:Int}:qdC (.int k n)=n:=rfl
theorem quI{r:List AV}: ∀ {ys:List Value} {k:IntKind} {n:Int},VRs w σ r ys->qcs r->
  (ys.foldlM Builtin.max2 (.int k n)).run P w= .ok (.int k (r.foldl (λa v=>if true then max a (qdC v) else min a (qdC v)) n)) w:=by
 induction r with
 |nil=>intro ys k n h _;have:=h.nil;subst this;simp
 |cons v r ih=>
  intro ys k n h hc;obtain⟨x,ys,rfl,hx,hr⟩:=h.cons;cases v<;>simp only[qcs]at hc;have ex:=zV hx;subst ex;rename_i k' m
  have:=ih (k:=k) (n:=max n m) hr hc
  simp only[List.foldlM_cons,Builtin.max2,Sem.run_bind,Sem.run_pure,Result.andThen_ok,List.foldl_cons,if_true,qeJ];rw[show (if m>n then m else n)=max n m from by omega];simpa using this
theorem quJ{r:List AV}: ∀ {ys:List Value} {k:IntKind} {n:Int},VRs w σ r ys->qcs r->
  (ys.foldlM Builtin.min2 (.int k n)).run P w= .ok (.int k (r.foldl (λa v=>if false then max a (qdC v) else min a (qdC v)) n)) w:=by
 induction r with
 |nil=>intro ys k n h _;have:=h.nil;subst this;simp
 |cons v r ih=>
  intro ys k n h hc;obtain⟨x,ys,rfl,hx,hr⟩:=h.cons;cases v<;>simp only[qcs]at hc;have ex:=zV hx;subst ex;rename_i k' m
  have:=ih (k:=k) (n:=min n m) hr hc
  simp only[List.foldlM_cons,Builtin.min2,Sem.run_bind,Sem.run_pure,Result.andThen_ok,List.foldl_cons,if_false,qeJ,Bool.false_eq_true];rw[show (if m<n then m else n)=min n m from by omega];simpa using this
theorem qAK{o:Oper}{c:Call}{b:Bool}(ho:o.op= .call c)(hb:c.callee= .builtin (if b then .max else .min)){vs:List AV}{ρ:Operand->Value}(hv:VRs w σ vs (c.args.toList.map ρ))(hok:okP (.mm b) vs):zK P w σ ρ o (valP (.mm b) vs):=by
 have hok':qcs vs∧vs≠ []:=by cases vs<;>exact hok
 match vs,hv,hok' with
 | .int k n::r,hv,hok'=>
  obtain⟨x,ys,hys,hx,hr⟩:=hv.cons;have ex:=zV hx;subst ex;have hargs:(c.args.map ρ).toList= .int k n::ys:=by simpa using hys
  have hval:valP (.mm b) (.int k n::r)= .int k (r.foldl (λa v=>if b then max a (qdC v) else min a (qdC v)) n):=by cases r<;>rfl
  refine⟨_,?_,by rw[hval];exact qec⟩;cases b
  ·have:=quJ (P:=P) (k:=k) (n:=n) hr hok'.1
   simp only[Bool.false_eq_true,if_false]at hb this ⊢;simp[execOp,ho,resolve,hb,invoke,Go.builtin,Builtin.min_,hys,this]
  ·have:=quI (P:=P) (k:=k) (n:=n) hr hok'.1
   simp only[if_true]at hb this ⊢;simp[execOp,ho,resolve,hb,invoke,Go.builtin,Builtin.max_,hys,this]
theorem qeb{v:AV}{x:Value}(h:VR w σ v x)(hs:v.solid=true):x.cells.size=v.cells.length∧(∀(i:Nat) y,x.cells[i]? =some y->y.oneCell'=true)∧ ∀(i:Nat) c y,v.cells[i]? =some c->x.cells[i]? =some y->VR w σ c y:=by
 have one: ∀ {a:AV} {x:Value},VR w σ a x->a.cells= [a]->x.cells= #[x]->x.oneCell'=true->x.cells.size=a.cells.length∧(∀(i:Nat) y,x.cells[i]? =some y->y.oneCell'=true)∧ ∀(i:Nat) c y,a.cells[i]? =some c->x.cells[i]? =some y->VR w σ c y:=by
  intro a x h e1 e2 e3;rw[e1,e2];refine⟨rfl,λi y hy=> ?_,λi c y hc hy=> ?_⟩
  ·cases i with
   |zero=>simp at hy;subst hy;exact e3
   |succ i=>simp at hy
  cases i with
  |zero=>simp at hc hy;subst hc hy;exact h
  |succ i=>simp at hc
 cases v with
 |undef=>cases hs
 |gd g v=>cases hs
 |agg cs=>obtain⟨vs,rfl,hl,h1,hh⟩:=qbR h;exact⟨hl,h1,hh⟩
 |bool b=>have:=jT h;subst this;exact one h rfl rfl rfl
 |int k n=>have:=zV h;subst this;exact one h rfl rfl rfl
 |str s=>have:=kg h;subst this;exact one h rfl rfl rfl
 |nl=>have:=qee h;subst this;exact one h rfl rfl rfl
 |el=>obtain⟨a,cap,rfl,_⟩:=qqY h;exact one h rfl rfl rfl
 |nilp=>have:=qed h;subst this;exact one h rfl rfl rfl
 |nilfn=>have:=qhq h;subst this;exact one h rfl rfl rfl
 |nilif=>have:=qhr h;subst this;exact one h rfl rfl rfl
 |ifc=>obtain⟨t,u,rfl⟩:=qr3 h;exact one h rfl rfl rfl
 |anyb=>obtain⟨b,rfl⟩:=qnA h;exact one h rfl rfl rfl
 |tup cs=>cases hs
 |fn f a c=>obtain⟨vs,us,rfl,_⟩:=qgo h;exact one h rfl rfl rfl
 |ip cs=>obtain⟨b,off,vals,rfl,_⟩:=qiY h;exact one h rfl rfl rfl
 |sl n f=>rcases qfg h with⟨_,_,rfl⟩|⟨_,_,_,_,_,rfl,_⟩<;>exact one h rfl rfl rfl
 |osl k ver sz off len=>obtain⟨a,n,c,rfl⟩:=qve h;exact one h rfl rfl rfl
 |op k ver off=>obtain⟨a,rfl⟩:=qBv h;exact one h rfl rfl rfl
 |mp k ver=>obtain⟨a,rfl⟩:=qBu h;exact one h rfl rfl rfl
 |yld k=>obtain⟨b,rfl⟩:=qvg h;exact one h rfl rfl rfl
theorem qmf(cells:Array Value)(off:Nat): ∀(l:List Value) (k:Nat),off+k+l.length<=cells.size->
  ((l.zipIdx k).foldl (λcs (x:Value×Nat)=>cs.setIfInBounds (off+x.2) x.1) cells).toList=cells.toList.take (off+k)++l++cells.toList.drop (off+k+l.length):=by
 intro l
 induction l generalizing cells with
 |nil=>intro k _;simp
 |cons v l ih=>
  intro k hk;simp only[List.zipIdx_cons,List.foldl_cons];have hk':off+k<cells.size:=by simp at hk;omega
  rw[ih _ (k+1) (by simp at hk ⊢;omega)];simp only[Array.toList_setIfInBounds,List.length_cons];have e1:off+(k+1)=(off+k)+1:=by omega
  have e2:off+(k+1)+l.length=off+k+(l.length+1):=by omega
  rw[e2,e1];have hl:off+k<cells.toList.length:=by simpa using hk'
  rw[List.take_set,List.drop_set_of_lt (by omega)];rw[List.take_add_one];simp[List.set_append,hl];rw[if_neg (by omega),Nat.min_eq_left (by omega),Nat.sub_self,Array.getElem?_eq_getElem hk'];simp
theorem zg{α:Type}{l m:List α}{off n:Nat}(hn:m.length=n)(ho:off+n<=l.length)(i:Nat):
  (l.take off++m++l.drop (off+n))[i]? =if i<off then l[i]? else if i<off+n then m[i-off]? else l[i]? :=by
 have h1:(l.take off).length=off:=by simp;omega
 split
 ·rename_i h;rw[List.append_assoc,List.getElem?_append_left (by omega),List.getElem?_take,if_pos h]
 ·rename_i h;split
  ·rename_i h';rw[List.append_assoc,List.getElem?_append_right (by omega),List.getElem?_append_left (by omega),h1]
  ·rename_i h';rw[List.getElem?_append_right (by simp;omega),List.getElem?_drop];congr 1;simp;omega
theorem qha{place:Nat->Option (Nat×Nat)}: ∀ {is:List Nat} {l:List (Nat×Nat)} {vs:List AV} {ys:List Value} {z:List AV} {cells:Array Value},(∀(j:Nat) i p,is[j]? =some i->l[j]? =some p->place i=some p)->is.length=l.length->
  VRs w σ vs ys->UE z.length l vs->cells.size=z.length->(∀(i:Nat) y,cells[i]? =some y->y.oneCell'=true)->(∀(i:Nat) c y,z[i]? =some c->cells[i]? =some y->VR w σ c y)->
  ∃out,Instr.fill place cells (is.zip ys)=some out∧out.size=(UR z l vs).length∧(∀(i:Nat) y,out[i]? =some y->y.oneCell'=true)∧ ∀(i:Nat) c y,(UR z l vs)[i]? =some c->out[i]? =some y->VR w σ c y:=by
 intro is
 induction is with
 |nil=>
  intro l vs ys z cells _ hl hv hok hs ho hz
  have:l= []:=by simpa using hl.symm
  subst this;refine⟨cells,by simp[Instr.fill],?_,ho,?_⟩
  ·cases vs<;>simpa[UR] using hs
  ·cases vs<;>simpa[UR] using hz
 |cons i is ih=>
  intro l vs ys z cells hp hl hv hok hs ho hz;cases l with
  |nil=>simp at hl
  |cons p l=>
   obtain⟨off,n⟩:=p;cases vs with
   |nil=>exact hok.elim
   |cons v vs=>
    obtain⟨y,ys,rfl,hy,hr⟩:=hv.cons;obtain⟨h1,h2,h3,h4⟩:=hok;obtain⟨c1,c3,c2⟩:=qeb hy h1;have hpl:=hp 0 i (off,n) rfl rfl;have hcs:y.cells.size=n:=by omega
    have hcond:(decide (y.cells.size≠n)||decide (off+y.cells.size>cells.size))=false:=by simp;omega
    have hput:=qmf cells off y.cells.toList 0 (by simp;omega);generalize hnew:(y.cells.toList.zipIdx 0).foldl (λcs (x:Value×Nat)=>cs.setIfInBounds (off+x.2) x.1) cells=new at hput;have hnewsz:new.size=cells.size:=by rw[<-Array.length_toList,hput];simp;omega
    have hlen':(z.take off++v.cells++z.drop (off+n)).length=z.length:=by simp;omega
    obtain⟨out,o1,o2,o4,o3⟩:=ih (l:=l) (vs:=vs) (ys:=ys) (z:=z.take off++v.cells++z.drop (off+n)) (cells:=new) (λj i p hj hj'=>hp (j+1) i p (by simpa using hj) (by simpa using hj')) (by simpa using hl) hr
     (by rw[hlen'];exact h4) (by rw[hlen'];omega) (λk u hu=>by
      rw[<-Array.getElem?_toList,hput]at hu;simp only[Nat.add_zero,Array.length_toList,hcs]at hu;rw[zg (n:=n) (by simp;omega) (by simp;omega)]at hu;split at hu
      ·exact ho k u (by simpa using hu)
      ·split at hu
       ·exact c3 _ u (by simpa using hu)
       ·exact ho k u (by simpa using hu)) (λk c u hk hu=>by
      rw[zg h2 h3]at hk;rw[<-Array.getElem?_toList,hput]at hu;simp only[Nat.add_zero,Array.length_toList,hcs]at hu;rw[zg (n:=n) (by simp;omega) (by simp;omega)]at hu;split at hk
      ·rename_i hlt;rw[if_pos hlt]at hu;exact hz k c u hk (by simpa using hu)
      ·rename_i hlt;rw[if_neg hlt]at hu;split at hk
       ·rename_i hlt';rw[if_pos hlt']at hu;exact c2 _ c u hk (by simpa using hu)
       ·rename_i hlt';rw[if_neg hlt']at hu
        exact hz k c u hk (by simpa using hu))
    refine⟨out,?_,o2,o4,o3⟩;simp only[List.zip_cons_cons,Instr.fill,hpl];have hsw:(y.cells.zipIdx.foldl (λcs (x:Value×Nat)=>cs.setIfInBounds (off+x.2) x.1) cells)=new:=by
     rw[<-hnew,<-Array.foldl_toList,Array.toList_zipIdx]
    rw[if_neg (by simp;omega)];exact hsw▸o1
theorem U8{t:TypeId}{z:List AV}(h:qcR P t=some z): ∃i v,P.info? t=some i∧i.zero=some v∧v.cells.size=i.size∧qnL v.cells.toList=some z:=by
 unfold qcR at h;split at h
 ·rename_i i hi;split at h
  ·rename_i v hv;split at h
   ·rename_i hs;exact⟨i,v,hi,hv,hs,h⟩
   ·cases h
  ·cases h
 ·cases h
theorem qeT{t:TypeId}: ∀ {is:List Nat} {l:List (Nat×Nat)},qbn P t is=some l->is.length=l.length∧ ∀(j:Nat) i p,is[j]? =some i->l[j]? =some p->
  (∃fs x y,P.underlying t=some (.struct fs)∧fs[i]? =some x∧P.info? x.type=some y∧p=(x.offset,y.size))∨(∃n e y,P.underlying t=some (.array n e)∧P.info? e=some y∧p=(i*y.size,y.size)):=by
 intro is
 induction is with
 |nil=>intro l h;cases h;exact⟨rfl,λj i p hj=>by simp at hj⟩
 |cons i is ih=>
  intro l h;simp only[qbn]at h;split at h
  ·rename_i fs hu;split at h
   ·rename_i x l' hx hl;cases hn:P.info? x.type with
    |none=>simp[ji,hn]at h
    |some y=>
     simp[ji,hn]at h;subst h;obtain⟨h1,h2⟩:=ih hl;refine⟨by simp[h1],λj k p hj hp=> ?_⟩;cases j with
     |zero=>simp at hj hp;subst hj hp;exact .inl ⟨fs,x,y,hu,hx,hn,rfl⟩
     |succ j=>exact h2 j k p (by simpa using hj) (by simpa using hp)
   ·cases h
  ·rename_i n e hu;split at h
   ·rename_i m l' hm hl;cases h;cases hn:P.info? e with
    |none=>simp[ji,hn]at hm
    |some y=>
     simp[ji,hn]at hm;subst hm;obtain⟨h1,h2⟩:=ih hl;refine⟨by simp[h1],λj k p hj hp=> ?_⟩;cases j with
     |zero=>simp at hj hp;subst hj hp;exact .inr ⟨n,e,y,hu,hn,rfl⟩
     |succ j=>exact h2 j k p (by simpa using hj) (by simpa using hp)
   ·cases h
  ·cases h
theorem qih: ∀(fs:List Field),(∀f∈fs,(P.info? f.type).isSome=true)->(fs.mapM (λf=>(do pure (f.offset,<-Go.sizeOf f.type):Sem (Nat×Nat)))).run P w= .ok (fs.map λf=>(f.offset,((P.info? f.type).map (·.size)).getD 0)) w:=by
 intro fs
 induction fs with
 |nil=>intro _;rfl
 |cons f fs ih=>
  intro h;have h1:=h f (by simp);obtain⟨i,hi⟩:=Option.isSome_iff_exists.1 h1;rw[List.mapM_cons];simp only[Sem.run_bind,jQ hi,Result.andThen_ok,Sem.run_pure,ih (λg hg=>h g (by simp[hg])),List.map_cons,hi,Option.map_some,Option.getD_some]
theorem qpR{o:Oper}{t:TypeId}{ps:Array (Nat×Operand)}{z:List AV}{l:List (Nat×Nat)}(ho:o.op= .build t ps)(hz:qcR P t=some z)(hl:qbn P t (ps.toList.map (·.1))=some l)(hb:qjV P t=true)
  {vs:List AV} {ρ:Operand->Value} (hv:VRs w σ vs ((ps.toList.map (·.2)).map ρ)) (hok:okP (.build z l) vs):zK P w σ ρ o (valP (.build z l) vs):=by
 obtain⟨i,zv,hi,hzv,hzs,hzo⟩:=U8 hz;obtain⟨hlen,hsp⟩:=qeT hl;obtain⟨hz1,hz2⟩:=qdG (w:=w) (ow:=own σ) hzo;have hok':UE z.length l vs:=by cases vs<;>exact hok
 have hval:valP (.build z l) vs= .agg (UR z l vs):=by cases vs<;>rfl
 have hzip:(ps.map λx=>(x.1,ρ x.2)).toList=(ps.toList.map (·.1)).zip ((ps.toList.map (·.2)).map ρ):=by
  simp[List.zip_map',Array.toList_map]
 have go: ∀place:Nat->Option (Nat×Nat),(∀(j:Nat) i p,(ps.toList.map (·.1))[j]? =some i->l[j]? =some p->place i=some p)->
   ∃out,Instr.fill place zv.cells (ps.map λx=>(x.1,ρ x.2)).toList=some out∧VR w σ (valP (.build z l) vs) (.agg out):=by
  intro place hp;obtain⟨out,o1,o2,o4,o3⟩:=qha (w:=w) (σ:=σ) hp hlen hv hok' (by simpa using hz1) (λk y hy=>qb8 hzo k y (by simpa using hy)) (λk c y hc hy=> .imm (hz2 k c y hc (by simpa using hy)));exact⟨out,by rw[hzip];exact o1,by rw[hval];exact .agg o2 o4 o3⟩
 unfold qjV at hb;split at hb
 ·rename_i fs hu;have hall: ∀f∈fs.toList,(P.info? f.type).isSome=true:=List.all_eq_true.1 hb;have hpl:=qih (w:=w) fs.toList hall;obtain⟨out,o1,o2⟩:=go (λk=>(fs.toList.map λf=>(f.offset,((P.info? f.type).map (·.size)).getD 0))[k]?) (λj k p hj hp=>by
   rcases hsp j k p hj hp with⟨fs',x,y,h1,h2,h3,rfl⟩|⟨n,e,y,h1,_⟩
   ·rw[hu]at h1;cases h1
    have:fs.toList[k]? =some x:=by simpa using h2
    simp[this,h3]
   ·rw[hu]at h1;cases h1)
  refine⟨.agg out,?_,o2⟩;have hm:(fs.mapM (λf=>(do pure (f.offset,<-Go.sizeOf f.type):Sem (Nat×Nat)))).run P w= .ok (fs.toList.map λf=>(f.offset,((P.info? f.type).map (·.size)).getD 0)).toArray w:=by
   rw[Array.mapM_eq_mapM_toList];simp only[Sem.run_map,hpl,Result.andThen_ok]
  simp only[execOp,ho,Instr.build,Sem.run_bind,qdR hi hzv,zC hu,Result.andThen_ok,hm];simp only[List.getElem?_toArray];rw[o1];rfl
 ·rename_i n e hu;obtain⟨y,hy⟩:=Option.isSome_iff_exists.1 hb;obtain⟨out,o1,o2⟩:=go (λk=>some (k*y.size,y.size)) (λj k p hj hp=>by
   rcases hsp j k p hj hp with⟨fs',x,y',h1,_⟩|⟨n',e',y',h1,h2,rfl⟩
   ·rw[hu]at h1;cases h1
   ·rw[hu]at h1;cases h1;rw[hy]at h2;cases h2
    rfl)
  refine⟨.agg out,?_,o2⟩;simp only[execOp,ho,Instr.build,Sem.run_bind,qdR hi hzv,zC hu,Result.andThen_ok,jQ hy];rw[o1];rfl
 ·cases hb
end
end AF
end
section
namespace AF
open Go
section
variable {P : Program} {js : List Tmp} {imp : List FuncId} {w : World} {σ : List OB}
theorem kY{k:NK}{op:BinOp}{x y:Operand}{r:R}{os:List Operand}(h:qdD k op x y=some (r,os)):
  ∃n z v,r= .isnil k n∧os= [z]∧((op= .eql∧n=false)∨(op= .neq∧n=true))∧((z=x∧v=y)∨(z=y∧v=x))∧gz k v=true:=by
 unfold qdD at h;split at h
 ·split at h
  ·rename_i hv;cases h;exact⟨false,x,y,rfl,rfl,.inl ⟨rfl,rfl⟩,.inl ⟨rfl,rfl⟩,hv⟩
  ·split at h
   ·rename_i hv;cases h;exact⟨false,y,x,rfl,rfl,.inl ⟨rfl,rfl⟩,.inr ⟨rfl,rfl⟩,hv⟩
   ·cases h
 ·split at h
  ·rename_i hv;cases h;exact⟨true,x,y,rfl,rfl,.inr ⟨rfl,rfl⟩,.inl ⟨rfl,rfl⟩,hv⟩
  ·split at h
   ·rename_i hv;cases h;exact⟨true,y,x,rfl,rfl,.inr ⟨rfl,rfl⟩,.inr ⟨rfl,rfl⟩,hv⟩
   ·cases h
 ·cases h
theorem qkL{o:Oper}{r:R}{os:List Operand}(hc:qkB P js imp o=some (r,os))(hk:r.kd= .pure){vs:List AV}{ρ:Operand->Value}(hρ: ∀c,ρ (.const c)=c)(hv:VRs w σ vs (os.map ρ))(hok:okP r vs):
  zK P w σ ρ o (valP r vs):=by
 unfold qkB at hc;split at hc
 ·rename_i ho;split at hc
  ·rename_i j e _ _;cases hs:ji P e with
   |none=>simp[hs]at hc
   |some sz=>simp[hs]at hc;obtain⟨rfl,rfl⟩:=hc;simp[R.kd]at hk
  ·cases hc;exact qpT (.inr ho) hv hok
 ·rename_i ho;split at hc
  ·rename_i j e _ _;cases hs:ji P e with
   |none=>simp[hs]at hc
   |some sz=>simp[hs]at hc;obtain⟨rfl,rfl⟩:=hc;simp[R.kd]at hk
  ·cases hc;exact qpT (.inl ho) hv hok
 ·rename_i x _ ho;cases hc;exact qpT (.inl ho) hv hok
 ·rename_i x _ ho;cases hc;exact qpT (.inr ho) hv hok
 ·cases hc;simp[R.kd]at hk
 ·rename_i op t x y u ho;split at hc
  ·cases hc;exact qrU ho hv hok
  ·cases hc;exact qrU ho hv hok
  ·rename_i ht;split at hc
   ·cases hc;exact qmb ho ht (.inl ⟨rfl,rfl⟩) hv hok
   ·cases hc;exact qmb ho ht (.inr ⟨rfl,rfl⟩) hv hok
   ·cases hc
  ·rename_i fs ht;split at hc
   ·rename_i ks hks hb;simp at hb;split at hc
    ·cases hc;exact qrT ho ht hks hb.1 hb.2 (.inl ⟨rfl,rfl⟩) hv hok
    ·cases hc;exact qrT ho ht hks hb.1 hb.2 (.inr ⟨rfl,rfl⟩) hv hok
    ·cases hc
   ·cases hc
  ·rename_i d _ _ _ _ ht;split at hc
   ·rename_i k hk';obtain⟨n,z,v,rfl,rfl,h1,h2,h3⟩:=kY hc;exact qpS ho ht hk' h1 h2 h3 hρ hv hok
   ·cases hc
  ·cases hc
 ·rename_i op t x ho;cases hc;exact qDU ho hv hok
 ·rename_i s d x ho;split at hc
  ·rename_i j k h1 h2;cases hc;exact qut ho h1 h2 hv hok
  ·split at hc
   ·split at hc<;>(cases hc;simp[R.kd]at hk)
   ·cases hc
  ·split at hc
   ·cases hc;simp[R.kd]at hk
   ·cases hc
  ·cases hc
 ·rename_i t x f ho;cases hf:km P t f with
  |none=>simp[hf]at hc
  |some p=>simp[hf]at hc;obtain⟨rfl,rfl⟩:=hc;exact qAJ ho hf hv hok
 ·rename_i x i ho;cases hc;exact qAI ho hv hok
 ·rename_i t ps ho;split at hc
  ·rename_i z l hz hl hb;cases hc;exact qpR ho hz hl hb hv hok
  ·cases hc
 ·rename_i f first cap ho;cases hc;exact quu ho hv hok
 ·rename_i t x i ho;split at hc
  ·rename_i ht;cases hc;exact quv ho ht hv hok
  ·rename_i len e ht;cases ha:qaa P e with
   |none=>rw[ha]at hc;cases hc
   |some n=>
    cases hd:P.info? e with
    |none=>rw[ha,hd]at hc;cases hc
    |some d=>rw[ha,hd]at hc;cases hc;exact qus ho ht ha hd hv hok
  ·cases hc
 ·rename_i t x lo hi ho;split at hc
  ·rename_i ht;cases hc;exact qux ho ht hv hok
  ·rename_i e ht;cases hs:ji P e with
   |none=>simp[hs]at hc
   |some sz=>simp[hs]at hc;obtain⟨rfl,rfl⟩:=hc;simp[R.kd]at hk
  ·cases hc
 ·rename_i t x i ho;split at hc
  ·rename_i e ht;cases hs:ji P e with
   |none=>simp[hs]at hc
   |some sz=>simp[hs]at hc;obtain⟨rfl,rfl⟩:=hc;simp[R.kd]at hk
  ·rename_i n e ht;split at hc
   ·cases hs:ji P e with
    |none=>simp[hs]at hc
    |some sz=>simp[hs]at hc;obtain⟨rfl,rfl⟩:=hc;simp[R.kd]at hk
   ·cases hs:ji P e with
    |none=>simp[hs]at hc
    |some sz=>simp[hs]at hc;obtain⟨rfl,rfl⟩:=hc;simp[R.kd]at hk
  ·cases hc
 ·rename_i t x f ho;cases hf:km P t f with
  |none=>simp[hf]at hc
  |some p=>simp[hf]at hc;obtain⟨rfl,rfl⟩:=hc;simp[R.kd]at hk
 ·rename_i t x ho;cases hf:qaa P t with
  |none=>simp[hf]at hc
  |some p=>simp[hf]at hc;obtain⟨rfl,rfl⟩:=hc;simp[R.kd]at hk
 ·cases hc;simp[R.kd]at hk
 ·split at hc
  ·cases hc;simp[R.kd]at hk
  ·cases hc
 ·rename_i t x ho;cases hf:qai js o.dst with
  |none=>simp[hf]at hc
  |some p=>simp[hf]at hc;obtain⟨rfl,rfl⟩:=hc;simp[R.kd]at hk
 ·rename_i t a x ho;cases hf:ji P t with
  |none=>simp[hf]at hc
  |some p=>simp[hf]at hc;obtain⟨rfl,rfl⟩:=hc;simp[R.kd]at hk
 ·split at hc
  ·split at hc
   ·cases hc;simp[R.kd]at hk
   ·cases hc
  ·cases hc
 ·split at hc
  ·split at hc
   ·simp at hc;obtain⟨_,rfl,rfl⟩:=hc;simp[R.kd]at hk
   ·cases hc
  ·cases hc
 ·rename_i c ho;split at hc
  ·split at hc
   ·split at hc
    ·cases hc;simp[R.kd]at hk
    ·rename_i hb _ _ _ _ e1 e2 _ ht;cases hc;exact quw ho hb e1 e2 ht hv hok
    ·cases hc
   ·cases hc
  ·split at hc
   ·split at hc
    ·cases hc;simp[R.kd]at hk
    ·cases hc
   ·cases hc
  ·rename_i hcal;split at hc
   ·split at hc
    ·cases hc;exact qAK (b:=true) ho hcal hv hok
    ·cases hc
   ·cases hc
  ·rename_i hcal;split at hc
   ·split at hc
    ·cases hc;exact qAK (b:=false) ho hcal hv hok
    ·cases hc
   ·cases hc
  ·split at hc
   ·split at hc
    ·simp at hc;obtain⟨_,i,hi,rfl,rfl⟩:=hc;simp[R.kd]at hk
    ·simp at hc;obtain⟨_,rfl,rfl⟩:=hc;simp[R.kd]at hk
    ·cases hc
   ·cases hc
  ·split at hc
   ·split at hc
    ·split at hc
     ·cases hc;simp[R.kd]at hk
     ·cases hc
    ·cases hc
   ·cases hc
  ·split at hc
   ·cases hc;simp[R.kd]at hk
   ·cases hc
  ·cases hc;simp[R.kd]at hk
  ·cases hc
 ·cases hc
theorem jL{h:List AObj}{k ver:Nat}{cs:List AV}(H:HR w σ h)(hc:cellsOf h k ver=some cs):
  ∃(o:OB) (b:Nat) (arr:Array Value),σ[k]? =some o∧o.ver=ver∧h[k]? =some (.mem ver o.ty cs)∧o.blk=some b∧Blk w b arr o.ty∧arr.size=o.size∧cs.length<=arr.size∧(∀(i:Nat) x,i<cs.length->arr[i]? =some x->x.oneCell'=true)∧
   ∀(i:Nat) c x,cs[i]? =some c->arr[i]? =some x->VR w σ c x:=by
 unfold cellsOf qu at hc;split at hc
 ·rename_i v ty ds hk;split at hc
  ·rename_i hv;cases hc;subst hv;have hlt:k<σ.length:=by rw[H.len];exact (List.getElem?_eq_some_iff.1 hk).1
   have ho:σ[k]? =some σ[k]:=List.getElem?_eq_getElem hlt;obtain⟨h1,ht,b,arr,h2,h3,h4,h5,h7,h6⟩:=H.obj k _ _ hk ho;subst ht;exact⟨σ[k],b,arr,ho,h1,hk,h2,h3,h4,h5,h7,h6⟩
  ·cases hc
 ·cases hc
theorem kh{b off:Nat}{arr:Array Value}{ty:TypeId}(h:Blk w b arr ty):w.cell? ⟨b,off,none⟩=arr[off]? :=by
 obtain⟨T,fz,_,h⟩:=h;simp[World.cell?,h]
theorem kH{h:List AObj}{k ver off:Nat}{x:Value}(H:HR w σ h)(hx:VR w σ (.op k ver off) x)(hc:(cellsOf h k ver).isSome=true): ∃(cs:List AV) (o:OB) (b:Nat) (arr:Array Value),cellsOf h k ver=some cs∧x= .pointer (some ⟨b,off,none⟩)∧
  σ[k]? =some o∧o.ver=ver∧o.blk=some b∧Blk w b arr o.ty∧arr.size=o.size∧cs.length<=arr.size∧(∀(i:Nat) x,i<cs.length->arr[i]? =some x->x.oneCell'=true)∧ ∀(i:Nat) c x,cs[i]? =some c->arr[i]? =some x->VR w σ c x:=by
 obtain⟨cs,hcs⟩:=Option.isSome_iff_exists.1 hc;obtain⟨o,b,arr,h1,h2,h3,h4,h5,h6,h7,h9,h8⟩:=jL H hcs;obtain⟨o',g1,g2,g3⟩:=qvd hx;rw[h1]at g1;cases g1;obtain⟨b',e1,e2⟩:=g3 h2;rw[h4]at e1;cases e1;exact⟨cs,o,b,arr,hcs,e2,h1,h2,h4,h5,h6,h7,h9,h8⟩
theorem jZ{h:List AObj}{k ver sz off len:Nat}{x:Value}(H:HR w σ h)(hx:VR w σ (.osl k ver sz off len) x)(hl:qH h k ver=true):
  (∃o:OB,σ[k]? =some o∧o.ver=ver∧o.blk=none∧h[k]? =some (.emp ver)∧off=0∧len=0∧x= .slice none 0 0)∨
  ∃(cs:List AV) (o:OB) (b cap:Nat) (arr:Array Value),h[k]? =some (.mem ver o.ty cs)∧x= .slice (some ⟨b,off,none⟩) len cap∧len<=cap∧cap<=maxLen∧off+cap*sz=o.size∧
   σ[k]? =some o∧o.ver=ver∧o.blk=some b∧Blk w b arr o.ty∧arr.size=o.size∧cs.length<=arr.size∧(∀(i:Nat) x,i<cs.length->arr[i]? =some x->x.oneCell'=true)∧ ∀(i:Nat) c x,cs[i]? =some c->arr[i]? =some x->VR w σ c x:=by
 obtain⟨o,g1,g2,g3⟩:=qnD hx;unfold qH qu at hl;split at hl
 ·rename_i v ty cs hk;have hv:v=ver:=by simpa using hl
  subst hv;obtain⟨h1,ht,b,arr,h2,h3,h4,h5,h7,h6⟩:=H.obj k _ _ hk g1;subst ht;rcases g3 h1 with⟨e1,_⟩|⟨b',cap,e1,e2,e3,e4,e5⟩
  ·rw[h2]at e1;cases e1
  ·rw[h2]at e1;cases e1;exact .inr ⟨cs,o,b,cap,arr,hk,e2,e3,e4,e5,g1,h1,h2,h3,h4,h5,h7,h6⟩
 ·rename_i v hk;have hv:v=ver:=by simpa using hl
  subst hv;obtain⟨h1,h2⟩:=H.obj k _ _ hk g1;rcases g3 h1 with⟨e1,e2,e3,e4⟩|⟨b',cap,e1,_⟩
  ·exact .inl ⟨o,g1,h1,h2,hk,e2,e3,e4⟩
  ·rw[h2]at e1;cases e1
 ·cases hl
theorem qAP{o:Oper}{c:Call}{x:Operand}{t e:TypeId}{h:List AObj}(ho:o.op= .call c)(hb:c.callee= .builtin .len)(ha:c.args.toList= [x])(ht:c.argTypes.toList= [t])
  (hty:P.underlying t=some (.slice e)) (H:HR w σ h) {vs:List AV} {ρ:Operand->Value} (hv:VRs w σ vs [ρ x]) (hok:okL h .len vs):zK P w σ ρ o (valL h .len vs):=by
 have e1:c.args= #[x]:=by rw[<-ha]
 have e2:c.argTypes= #[t]:=by rw[<-ht]
 have go: ∀(a:Option Addr) (n cap:Nat),ρ x= .slice a n cap->zK P w σ ρ o (.int .i64 n):=λa n cap hx=>
  ⟨.int .i64 n,by simp[execOp,ho,resolve,hb,invoke,Go.builtin,Builtin.len_,e1,e2,zC hty,hx,goInt],qec⟩
 match vs,hv,hok with
 | [.sl n f],hv,hok=>
  obtain⟨p,hp,ha⟩:=hv.one;cases hp;rcases qfg ha with⟨hn,_,hx⟩|⟨_,_,_,_,_,hx,_⟩
  ·subst hn;exact go _ _ _ hx
  ·exact go _ _ _ hx
 | [.nl],hv,hok=>
  obtain⟨p,hp,ha⟩:=hv.one;cases hp;exact go _ _ _ (qee ha)
 | [.el],hv,hok=>
  obtain⟨p,hp,ha⟩:=hv.one;cases hp;obtain⟨a,cap,hx,_⟩:=qqY ha;exact go _ _ _ hx
 | [.osl k ver sz off n],hv,hok=>
  obtain⟨p,hp,ha⟩:=hv.one;cases hp;rcases jZ H ha hok with⟨_,_,_,_,_,_,hn,hx⟩|⟨_,_,_,_,_,_,hx,_⟩
  ·subst hn;exact go _ _ _ hx
  ·exact go _ _ _ hx
theorem qAO{o:Oper}{c:Call}{x:Operand}{t e:TypeId}{h:List AObj}(ho:o.op= .call c)(hb:c.callee= .builtin .cap)(ha:c.args.toList= [x])(ht:c.argTypes.toList= [t])
  (hty:P.underlying t=some (.slice e)) {vs:List AV} {ρ:Operand->Value} (hv:VRs w σ vs [ρ x]) (hok:okL h .cap vs):zK P w σ ρ o (valL h .cap vs):=by
 have e1:c.args= #[x]:=by rw[<-ha]
 have e2:c.argTypes= #[t]:=by rw[<-ht]
 match vs,hv,hok with
 | [.nl],hv,hok=>
  obtain⟨p,hp,ha⟩:=hv.one;cases hp;have hx:=qee ha;exact⟨.int .i64 0,by simp[execOp,ho,resolve,hb,invoke,Go.builtin,Builtin.cap_,e1,e2,zC hty,hx,goInt],qec⟩
theorem qdI{e:TypeId}(h:okU P e=true):P.underlying e=some (.int .u8):=by
 unfold okU at h;split at h
 ·assumption
 ·cases h
theorem qfV{src dst e:TypeId}(a0:Option Addr)(hs:P.underlying src=some (.slice e))(he:P.underlying e=some (.int .u8))(hd:P.underlying dst=some .string):(convert src dst (.slice a0 0 0)).run P w= .ok (.string ⟨#[]⟩) w:=by
 cases a0 with
 |some a1=>
  have:=run_convert_bytes_back (P:=P) w src dst e a1 0 [] hs he hd (λj hj=>absurd hj (by simp))
  exact this
 |none=>
 rw[run_convert_bytes_string w src dst e none 0 0 hs he hd];simp[Conv.bytesToString]
 try rfl
theorem qeu{c:AV}{x:Value}(hb:qc5 c)(h:VR w σ c x):x= .int .u8 ((qaD c).toNat:Int):=by
 cases c with
 |int k n=>
  cases k<;>simp only[qc5]at hb<;>first|exact hb.elim|skip
  rw[zV h]
  have:(UInt8.ofNat n.toNat).toNat=n.toNat:=by
   rw[UInt8.toNat_ofNat'];omega
  simp only[qaD,this];congr 1;omega
 |_=>exact hb.elim
theorem qAN{o:Oper}{x:Operand}{s d e:TypeId}{h:List AObj}(ho:o.op= .convert s d x)(hs:P.underlying s=some (.slice e))(hd:P.underlying d=some .string)(he:P.underlying e=some (.int .u8))(H:HR w σ h){vs:List AV}{ρ:Operand->Value}
  (hv:VRs w σ vs [ρ x]) (hok:okL h .b2s vs):zK P w σ ρ o (valL h .b2s vs):=by
 have hadd: ∀(b off n:Nat),(⟨b,off,none⟩:Addr).add n=⟨b,off+n,none⟩:=by
  intro b off n;unfold Addr.add;split
  ·rename_i h;subst h;rfl
  ·rfl
 have go: ∀(b off cap:Nat) (l:List UInt8),ρ x= .slice (some ⟨b,off,none⟩) l.length cap->(∀j (hj:j<l.length),w.cell? ⟨b,off+j,none⟩=some (.int .u8 (l[j].toNat:Int)))->zK P w σ ρ o (.str l):=by
  intro b off cap l hx hc;refine⟨.string ⟨l.toArray⟩,?_,qCm⟩
  have:=run_convert_bytes_back (P:=P) w s d e ⟨b,off,none⟩ cap l hs he hd (λj hj=>by rw[hadd];exact hc j hj)
  simp only[execOp,ho,hx,Sem.run_bind,this,Result.andThen_ok,Sem.run_pure]
 have go0: ∀a0,ρ x= .slice a0 0 0->zK P w σ ρ o (.str []):=by
  intro a0 hx;refine⟨.string ⟨#[]⟩,?_,qCm⟩;simp only[execOp,ho,hx,Sem.run_bind,qfV a0 hs he hd,Result.andThen_ok,Sem.run_pure]
 match vs,hv,hok with
 | [.sl n f],hv,hok=>
  obtain⟨p,hp,ha⟩:=hv.one;cases hp;rcases qfg ha with⟨hn,a0,hx⟩|⟨sz,b,off,cap,vals,hx,g1,g2,g3,g4,g5,g6,g8,g7⟩
  ·subst hn;exact go0 _ hx
  ·have hl:((List.range n).map λi=>qfu (f i)).length=n:=by simp
   refine go b off cap _ (by rw[hl];exact hx) (λj hj=> ?_);rw[hl]at hj;have h1:=hok j hj;cases hf:f j with
   |nil=>rw[hf]at h1;exact h1.elim
   |cons c r=>
    cases r with
    |cons _ _=>rw[hf]at h1;exact h1.elim
    |nil=>
     rw[hf]at h1;have hz:=g5 j hj;rw[hf]at hz;simp only[List.length_singleton]at hz;have h2:=g6 j 0 hj (by omega);have h3:=qeu (σ:=σ) h1 (.imm (g7 j 0 c hj (by rw[hf];rfl)));rw[<-hz,Nat.mul_one,Nat.add_zero,h3]at h2;rw[h2];simp[hf,qfu]
 | [.nl],hv,hok=>
  obtain⟨p,hp,ha⟩:=hv.one;cases hp;exact go0 _ (qee ha)
 | [.osl k ver sz off n],hv,hok=>
  obtain⟨p,hp,ha⟩:=hv.one;cases hp;obtain⟨k1,rfl,k3,k4⟩:=hok;rcases jZ H ha k1 with⟨_,_,_,_,hk,_,hn,hx⟩|⟨cs,_,b,cap,arr,hk,hx,_,_,_,_,_,_,g5,_,g7,_,g8⟩
  ·subst hn
   have:(((((cellsOf h k ver).getD []).drop off).take 0).map qaD)= []:=by simp
   show zK P w σ ρ o (.str _);rw[this];exact go0 _ hx
  ·have hcs:cellsOf h k ver=some cs:=by unfold cellsOf qu;rw[hk];simp
   show zK P w σ ρ o (.str _);rw[hcs]at k3 k4 ⊢;simp only[Option.getD_some]at k3 k4 ⊢;have hl:(((cs.drop off).take n).map qaD).length=n:=by simp;omega
   refine go b off cap _ (by rw[hl];exact hx) (λj hj=> ?_);rw[hl]at hj;have e1:cs[off+j]? =some cs[off+j]:=List.getElem?_eq_getElem (by omega);have e2:arr[off+j]? =some arr[off+j]:=by simp[show off+j<arr.size by omega]
   have hm:cs[off+j]∈(cs.drop off).take n:=List.mem_iff_getElem.2 ⟨j,by simp;omega,by simp⟩;rw[kh g5,e2,qeu (k4 _ hm) (g8 _ _ _ e1 e2)];simp
theorem qe1{t e:TypeId}{i:TypeInfo}(ht:P.underlying t=some (.slice e))(hi:P.info? e=some i){b off n cap:Nat}{k:IntKind}{m:Int}(h0:0<=m)(h1:m<n):
  (Instr.indexAt t (.slice (some ⟨b,off,none⟩) n cap) (.int k m)).run P w= .ok (.pointer (some ⟨b,off+m.toNat*i.size,none⟩)) w:=by
 have hadd:(⟨b,off,none⟩:Addr).add (m.toNat*i.size)=⟨b,off+m.toNat*i.size,none⟩:=by
  unfold Addr.add;split<;>simp_all
 simp[Instr.indexAt,asIntOf,zC ht,jQ hi,h0,h1,hadd]
theorem quA{o:Oper}{x y:Operand}{t e:TypeId}{i:TypeInfo}{h:List AObj}(ho:o.op= .indexAddr t x y)(ht:P.underlying t=some (.slice e))(hi:P.info? e=some i)(H:HR w σ h){vs:List AV}{ρ:Operand->Value}(hv:VRs w σ vs [ρ x,ρ y])
  (hok:okL h (.idxA i.size) vs):zK P w σ ρ o (valL h (.idxA i.size) vs):=by
 match vs,hv,hok with
 | [.sl n f,.int k m],hv,hok=>
  obtain⟨p,q,hp,ha,hb⟩:=hv.two;cases hp;have eb:=zV hb;obtain⟨⟨h0,h1⟩,h2⟩:=hok;have hm:m.toNat<n:=by omega
  rcases qfg ha with⟨hn,_⟩|⟨sz,b,off,cap,vals,hx,g1,g2,g3,g4,g5,g6,g8,g7⟩
  ·omega
  ·have hsz:sz=i.size:=by rw[<-g5 _ hm];exact h2
   subst hsz;refine⟨.pointer (some ⟨b,off+m.toNat*i.size,none⟩),by simp[execOp,ho,hx,eb,qe1 ht hi h0 h1],?_⟩;refine .imm (.ip b _ (λj=>vals m.toNat j) (g3 (by omega)) g4 (λj hj=> ?_) (λj hj=>g8 _ j hm (by rw[h2]at hj;exact hj)) (λj c hj=>g7 _ j c hm hj));exact g6 m.toNat j hm (by rw[h2]at hj;exact hj)
 | [.osl k ver sz off n,.int k' m],hv,hok=>
  obtain⟨p,q,hp,ha,hb⟩:=hv.two;cases hp;have eb:=zV hb;obtain⟨⟨h0,h1⟩,rfl,h3⟩:=hok;have hl:qH h k ver=true:=by
   obtain⟨cs,hcs⟩:=Option.isSome_iff_exists.1 h3;obtain⟨_,_,_,_,_,hk,_⟩:=jL H hcs;simp[qH,qu,hk]
  rcases jZ H ha hl with⟨_,_,_,_,_,_,hn,hx⟩|⟨cs,ob,b,cap,arr,g1,hx,g2,g3,g4,g5,g6,g7,g8⟩
  ·omega
  ·refine⟨.pointer (some ⟨b,off+m.toNat*i.size,none⟩),by simp[execOp,ho,hx,eb,qe1 ht hi h0 h1],?_⟩;exact .op ob g5 ⟨_,rfl⟩ (by omega) (λ_=>⟨b,g7,rfl⟩)
theorem ku(b off n:Nat):(⟨b,off,none⟩:Addr).add n=⟨b,off+n,none⟩:=by
 unfold Addr.add;split<;>simp_all
theorem qmi{o:Oper}{x y:Operand}{t e:TypeId}{n:Nat}{i:TypeInfo}{h:List AObj}(ho:o.op= .indexAddr t x y)(ht:P.underlying t=some (.array n e))(hi:P.info? e=some i)(H:HR w σ h){vs:List AV}{ρ:Operand->Value}(hv:VRs w σ vs [ρ x,ρ y])
  (hok:okL h (.idxArr n i.size) vs):zK P w σ ρ o (valL h (.idxArr n i.size) vs):=by
 match vs,hv,hok with
 | [.ip cs,.int k m],hv,hok=>
  obtain⟨p,q,hp,ha,hb⟩:=hv.two;cases hp;have eb:=zV hb;obtain⟨⟨h0,h1⟩,h2⟩:=hok;have hm:m.toNat<n:=by omega
  have hle:m.toNat*i.size+i.size<=cs.length:=by
   rw[h2,<-Nat.succ_mul];exact Nat.mul_le_mul_right _ hm
  obtain⟨b,off,vals,hx,g1,g2,g3,g5,g4⟩:=qiY ha;refine⟨.pointer (some ⟨b,off+m.toNat*i.size,none⟩),by simp[execOp,ho,hx,eb,Instr.indexAt,asIntOf,zC ht,jQ hi,h0,h1,Instr.sureAddr,ku],?_⟩;refine .imm (.ip b _ (λj=>vals (m.toNat*i.size+j)) g1 g2 (λj hj=> ?_) (λj hj=>g5 _ (by simp at hj;omega)) (λj c hj=> ?_))
  ·rw[<-g3 (m.toNat*i.size+j) (by simp at hj;omega),Nat.add_assoc]
  ·rw[List.getElem?_take]at hj;split at hj
   ·rw[List.getElem?_drop]at hj;exact g4 _ c hj
   ·cases hj
 | [.op k ver off,.int k' m],hv,hok=>
  obtain⟨p,q,hp,ha,hb⟩:=hv.two;cases hp;have eb:=zV hb;obtain⟨⟨h0,h1⟩,h3⟩:=hok;obtain⟨cs,ob,b,arr,g1,hx,g2,g3,g4,g5,g6,g7,g8⟩:=kH H ha h3;refine⟨.pointer (some ⟨b,off+m.toNat*i.size,none⟩),by simp[execOp,ho,hx,eb,Instr.indexAt,asIntOf,zC ht,jQ hi,h0,h1,Instr.sureAddr,ku],?_⟩;exact .op ob g2 ⟨_,rfl⟩ (by omega) (λ_=>⟨b,g4,rfl⟩)
theorem quz{o:Oper}{t:TypeId}{x:Operand}{f off:Nat}{n:Option Nat}{h:List AObj}(ho:o.op= .fieldAddr t x f)(hf:km P t f=some (off,n))(H:HR w σ h){vs:List AV}{ρ:Operand->Value}(hv:VRs w σ vs [ρ x])
  (hok:okL h (.fldA off) vs):zK P w σ ρ o (valL h (.fldA off) vs):=by
 obtain⟨fs,fx,i,hu,hx,hag,hi,hz,rfl⟩:=qbA hf;have hrun: ∀b p,ρ x= .pointer (some ⟨b,p,none⟩)->(execOp ρ o).run P w= .ok (.value (.pointer (some ⟨b,p+fx.offset,none⟩))) w:=by
  intro b p e;simp[execOp,ho,e,Instr.fieldAt,zC hu,hx,Instr.sureAddr,fieldPlace,jQ hi,hz,ku]
 match vs,hv,hok with
 | [.ip cs],hv,hok=>
  obtain⟨p,hp,ha⟩:=hv.one;cases hp;obtain⟨b,p,vals,ex,g1,g2,g3,g5,g4⟩:=qiY ha;refine⟨_,hrun _ _ ex,?_⟩;refine .imm (.ip b _ (λj=>vals (fx.offset+j)) g1 g2 (λj hj=> ?_) (λj hj=>g5 _ (by simp at hj;omega)) (λj c hj=> ?_))
  ·rw[<-g3 (fx.offset+j) (by simp at hj;omega),Nat.add_assoc]
  ·rw[List.getElem?_drop]at hj;exact g4 _ c hj
 | [.op k ver p],hv,hok=>
  obtain⟨q,hq,ha⟩:=hv.one;cases hq;obtain⟨cs,ob,b,arr,g1,ex,g2,g3,g4,g5,g6,g7,g9,g8⟩:=kH H ha hok;exact⟨_,hrun _ _ ex,.op ob g2 ⟨_,rfl⟩ (by omega) (λ_=>⟨b,g4,rfl⟩)⟩
theorem qmp{b:Nat}(f:Nat->Value): ∀(n i off:Nat) (acc:Array Value),(∀j,j<n->w.cell? ⟨b,off+i+j,none⟩=some (f (i+j)))->
  (loadCellsFrom ⟨b,off,none⟩ i n acc).run P w= .ok (acc++(Array.range n).map λj=>f (i+j)) w:=by
 intro n
 induction n with
 |zero=>intro i off acc _;simp[loadCellsFrom]
 |succ n ih=>
  intro i off acc h;have h0:=h 0 (by omega);simp only[Nat.add_zero]at h0;simp only[loadCellsFrom,ku,Sem.run_bind,run_load,h0,Result.andThen_ok];rw[ih (i+1) off _ (λj hj=>by have:=h (j+1) (by omega);rw[show off+(i+1)+j=off+i+(j+1)from by omega,this,show i+1+j=i+(j+1)from by omega])];congr 1;apply Array.ext';simp[Array.toList_map,List.range_succ_eq_map,Function.comp_def];intro a _;congr 1;omega
theorem qfX{t:TypeId}{n:Option Nat}(h:qaa P t=some n){cs:List AV}{b off p:Nat}{f:Nat->Value}(hc: ∀j,j<cs.length->p<=j->w.cell? ⟨b,off+j,none⟩=some (f j))(h1: ∀j,j<cs.length->(f j).oneCell'=true)(hv: ∀(j:Nat) c,cs[j]? =some c->VR w σ c (f j))
  (hok:kv cs p n): ∃x,(loadVar t ⟨b,off+p,none⟩).run P w= .ok x w∧VR w σ (cut cs p n) x:=by
 obtain⟨i,d,hi,hd,hn⟩:=qcT h;rcases hn with⟨rfl,hd'⟩|⟨rfl,hd'⟩
 ·have h2:p<cs.length:=hok;refine⟨f p,by simp[loadVar,qbu hd,hd',hc p h2 (Nat.le_refl _)],?_⟩
  have:=hv p cs[p] (by simp[h2])
  simpa[cut,h2] using this
 ·have h2:p+i.size<=cs.length:=hok;refine⟨.agg ((Array.range i.size).map λj=>f (p+j)),?_,?_⟩
  ·have:=qmp (P:=P) (w:=w) (b:=b) (λj=>f (p+j)) i.size 0 (off+p) #[] (λj hj=>by rw[Nat.add_zero,Nat.add_assoc,hc (p+j) (by omega) (by omega),Nat.zero_add])
   simp only[Nat.zero_add,Array.empty_append]at this;simp[loadVar,qbu hd,hd',jQ hi,loadCells,this]
  ·simp only[cut];refine .agg (by simp;omega) (λj y hy=> ?_) λj c y hc hy=> ?_
   ·rw[Array.getElem?_map]at hy
    by_cases hj:j<i.size
    ·simp[hj]at hy;subst hy;exact h1 _ (by omega)
    ·simp[hj]at hy
   rw[List.getElem?_take]at hc;split at hc
   ·rename_i hj;rw[List.getElem?_drop]at hc
    have:y=f (p+j):=by
     rw[Array.getElem?_map]at hy;simp[hj]at hy;exact hy.symm
    subst this;exact hv _ c hc
   ·cases hc
theorem quB{o:Oper}{t:TypeId}{x:Operand}{n:Option Nat}{h:List AObj}(ho:o.op= .load t x)(hf:qaa P t=some n)(H:HR w σ h){vs:List AV}{ρ:Operand->Value}(hv:VRs w σ vs [ρ x])
  (hok:okL h (.load n) vs):zK P w σ ρ o (valL h (.load n) vs):=by
 match vs,hv,hok with
 | [.ip cs],hv,hok=>
  obtain⟨p,hp,ha⟩:=hv.one;cases hp;obtain⟨b,p,vals,ex,g1,g2,g3,g5,g4⟩:=qiY ha;obtain⟨y,hy1,hy2⟩:=qfX (P:=P) (w:=w) (σ:=σ) hf (cs:=cs) (b:=b) (off:=p) (p:=0) (f:=vals) (λj hj _=>g3 j hj) g5 (λj c hj=> .imm (g4 j c hj)) hok;rw[Nat.add_zero]at hy1;exact⟨y,by simp[execOp,ho,ex,Instr.loadAt,Instr.sureAddr,hy1],hy2⟩
 | [.op k ver p],hv,hok=>
  obtain⟨q,hq,ha⟩:=hv.one;cases hq;obtain⟨hs,hok⟩:=hok;obtain⟨cs,ob,b,arr,g1,ex,g2,g3,g4,g5,g6,g7,g9,g8⟩:=kH H ha hs;rw[g1,Option.getD_some]at hok;have hval:valL h (.load n) [.op k ver p]=cut cs p n:=by simp[valL,g1]
  rw[hval];obtain⟨y,hy1,hy2⟩:=qfX (P:=P) (w:=w) (σ:=σ) hf (cs:=cs) (b:=b) (off:=0) (p:=p) (f:=λj=>arr.getD j Go.undef) (λj hj _=>by
    have hj':j<arr.size:=by omega
    rw[Nat.zero_add,kh g5]
    simp[hj']) (λj hj=>by
    have hj':j<arr.size:=by omega
    exact g9 j _ hj (by simp[hj'])) (λj c hj=>by
    have hj':j<arr.size:=by have:=(List.getElem?_eq_some_iff.1 hj).1;omega
    exact g8 j c _ hj (by simp[hj'])) hok
  rw[Nat.zero_add]at hy1;exact⟨y,by simp[execOp,ho,ex,Instr.loadAt,Instr.sureAddr,hy1],hy2⟩
theorem qAQ{o:Oper}{x:Operand}{h:List AObj}(ho:o.op= .nilCheck x)(H:HR w σ h){vs:List AV}{ρ:Operand->Value}(hv:VRs w σ vs [ρ x])(hok:okL h .nilchk vs):zK P w σ ρ o (valL h .nilchk vs):=by
 match vs,hv,hok with
 | [.ip cs],hv,hok=>
  obtain⟨p,hp,ha⟩:=hv.one;cases hp;obtain⟨b,p,vals,ex,_⟩:=qiY ha;exact⟨ρ x,by simp[execOp,ho,ex],ha⟩
 | [.op k ver p],hv,hok=>
  obtain⟨q,hq,ha⟩:=hv.one;cases hq;obtain⟨cs,ob,b,arr,g1,ex,_⟩:=kH H ha hok;exact⟨ρ x,by simp[execOp,ho,ex],ha⟩
 | [.fn (.func f) a c],hv,hok=>
  obtain⟨q,hq,ha⟩:=hv.one;cases hq;obtain⟨us,zs,ex,_⟩:=qgo ha;exact⟨ρ x,by simp[execOp,ho,ex],ha⟩
theorem qAR{o:Oper}{t e:TypeId}{x:Operand}{lo hi:Option Operand}{i:TypeInfo}{h:List AObj}(ho:o.op= .slice t x lo hi none)(ht:P.underlying t=some (.slice e))(hi':P.info? e=some i)(H:HR w σ h){vs:List AV}{ρ:Operand->Value}
  (hv:VRs w σ vs ((x::(qfl lo++qfl hi)).map ρ)) (hok:okL h (.slc i.size lo.isSome hi.isSome) vs):zK P w σ ρ o (valL h (.slc i.size lo.isSome hi.isSome) vs):=by
 have hrun: ∀(a:Option Addr) (n cap:Nat) (bs:List AV),ρ x= .slice a n cap->n<=cap->VRs w σ bs ((qfl lo++qfl hi).map ρ)->qcs bs->0<=loB lo.isSome bs->loB lo.isSome bs<=hiB lo.isSome hi.isSome n bs->hiB lo.isSome hi.isSome n bs<=n->
   (execOp ρ o).run P w= .ok (.value (.slice (if cap=(loB lo.isSome bs).toNat then a else a.map (·.add ((loB lo.isSome bs).toNat*i.size))) ((hiB lo.isSome hi.isSome n bs).toNat-(loB lo.isSome bs).toNat) (cap-(loB lo.isSome bs).toNat))) w:=by
  intro a n cap bs e hc hr h1 h2 h3 h4;have hb:=qdf (P:=P) (s:=true) (len:=n) (cap:=cap) (lo:=lo) (hi:=hi) (ρ:=ρ) hr h1 h2 h3 (by omega);simp[execOp,ho,e,Instr.sliceAt,Instr.slice,zC ht,hb,jQ hi']
 match vs,hv,hok with
 | .sl n f::bs,hv,hok=>
  obtain⟨p,r,hp,ha,hr⟩:=hv.cons;simp only[List.map_cons,List.cons.injEq]at hp;obtain⟨rfl,rfl⟩:=hp;obtain⟨h1,_,h3,h4,h5,h6⟩:=hok;rcases qfg ha with⟨hn,a0,hx⟩|⟨sz,b,off,cap,vals,hx,g1,g2,g3,g4,g5,g6,g8,g7⟩
  ·subst hn;refine⟨_,hrun a0 0 0 bs hx (Nat.le_refl _) hr h1 h3 h4 h5,?_⟩;have e1:(hiB lo.isSome hi.isSome ((0:Nat):Int) bs).toNat-(loB lo.isSome bs).toNat=0:=by omega
   have e2:valL h (.slc i.size lo.isSome hi.isSome) (.sl 0 f::bs)= .sl 0 (λi=>f ((loB lo.isSome bs).toNat+i)):=by
    show AV.sl _ _=_;rw[e1]
   rw[e2,e1];simp;exact .imm .nilsl
  ·refine⟨_,hrun _ n cap bs hx g1 hr h1 h3 h4 h5,?_⟩;generalize hl:(loB lo.isSome bs).toNat=l;generalize hh:(hiB lo.isSome hi.isSome (n:Int) bs).toNat=u;have hlu:l<=u:=by omega
   have hun:u<=n:=by omega
   have e2:valL h (.slc i.size lo.isSome hi.isSome) (.sl n f::bs)= .sl (u-l) (λi=>f (l+i)):=by
    show AV.sl _ _=_;rw[hl,hh]
   rw[e2]
   by_cases hlast:cap=l
   ·rw[if_pos hlast]
    have:u-l=0:=by omega
    rw[this];exact .imm (.sl 0 b off (cap-l) vals (by omega) (by omega) (by omega) g4 (by omega) (by omega) (by omega) (by omega))
   ·rw[if_neg hlast];simp only[Option.map_some,ku]
    by_cases hz:u-l=0
    ·rw[hz];exact .imm (.sl 0 b _ (cap-l) vals (by omega) (by omega) (by omega) g4 (by omega) (by omega) (by omega) (by omega))
    have hsz:sz=i.size:=by rw[<-g5 0 (by omega)];exact h6 (by omega)
    subst hsz;refine .imm (.sl i.size b _ (cap-l) (λk j=>vals (l+k) j) (by omega) (by omega) (λ_=>g3 (by omega)) g4 (λk hk=>g5 _ (by omega)) (λk j hk hj=> ?_) (λk j hk hj=>g8 _ j (by omega) hj) (λk j c hk hj=>g7 _ j c (by omega) hj));rw[<-g6 (l+k) j (by omega) hj,Nat.add_mul];congr 2;omega
 | .nl::bs,hv,hok=>
  obtain⟨p,r,hp,ha,hr⟩:=hv.cons;simp only[List.map_cons,List.cons.injEq]at hp;obtain⟨rfl,rfl⟩:=hp;obtain⟨h1,_,h3,h4,h5⟩:=hok;refine⟨_,hrun none 0 0 bs (qee ha) (Nat.le_refl _) hr h1 h3 h4 h5,?_⟩;have e0:(loB lo.isSome bs).toNat=0:=by omega
  have e1:(hiB lo.isSome hi.isSome ((0:Nat):Int) bs).toNat-(loB lo.isSome bs).toNat=0:=by omega
  rw[e1,e0];exact .imm .nl
 | .osl k ver sz off n::bs,hv,hok=>
  obtain⟨p,r,hp,ha,hr⟩:=hv.cons;simp only[List.map_cons,List.cons.injEq]at hp;obtain⟨rfl,rfl⟩:=hp;obtain⟨h1,_,h3,h4,h5,rfl,h7,h8⟩:=hok;rcases jZ H ha h7 with⟨ob,g1,g2,g3,g4,rfl,rfl,hx⟩|⟨cs,ob,b,cap,arr,g1,hx,g2,g3,g4,g5,g6,g7,_⟩
  ·refine⟨_,hrun none 0 0 bs hx (Nat.le_refl _) hr h1 h3 h4 h5,?_⟩;have e0:(loB lo.isSome bs).toNat=0:=by omega
   have e1:(hiB lo.isSome hi.isSome ((0:Nat):Int) bs).toNat-(loB lo.isSome bs).toNat=0:=by omega
   have e2:valL h (.slc i.size lo.isSome hi.isSome) (.osl k ver i.size 0 0::bs)= .osl k ver i.size 0 0:=by
    show AV.osl _ _ _ _ _=_;rw[e1,e0];simp
   rw[e2,e1,e0];simp;exact .osl ob g1 ⟨_,_,_,rfl⟩ (by omega) (λ_=> .inl ⟨g3,rfl,rfl,rfl⟩)
  ·refine⟨_,hrun _ n cap bs hx g2 hr h1 h3 h4 h5,?_⟩;generalize hl:(loB lo.isSome bs).toNat=l;generalize hh:(hiB lo.isSome hi.isSome (n:Int) bs).toNat=u;have hlu:l<=u:=by omega
   have hun:u<=n:=by omega
   have e2:valL h (.slc i.size lo.isSome hi.isSome) (.osl k ver i.size off n::bs)= .osl k ver i.size (off+l*i.size) (u-l):=by
    show AV.osl _ _ _ _ _=_;rw[hl,hh]
   rw[e2]
   by_cases hlast:cap=l
   ·rw[if_pos hlast];have h0:l=0∧u=0:=by omega
    obtain⟨rfl,rfl⟩:=h0;subst hlast;simp only[Nat.zero_mul,Nat.add_zero,Nat.sub_self];exact .osl ob g5 ⟨_,_,_,rfl⟩ (by omega) (λ_=> .inr ⟨b,0,g7,rfl,Nat.le_refl _,by omega,by simpa using g4⟩)
   ·rw[if_neg hlast];simp only[Option.map_some,ku];refine .osl ob g5 ⟨_,_,_,rfl⟩ (by omega) (λ_=> .inr ⟨b,cap-l,g7,rfl,by omega,by omega,?_⟩);rw[Nat.add_assoc,<-Nat.add_mul,show l+(cap-l)=cap from by omega];exact g4
end
end AF
end
section
namespace AF
open Go
section
variable {P : Program} {js : List Tmp} {imp : List FuncId} {w : World} {σ : List OB}
theorem qoK{o:Oper}{r:R}{os:List Operand}(hc:qkB P js imp o=some (r,os))(hk:r.kd= .mem){vs:List AV}{ρ:Operand->Value}(hρ: ∀c,ρ (.const c)=c)(hv:VRs w σ vs (os.map ρ)){h:List AObj}(H:HR w σ h)(hok:okL h r vs):
  zK P w σ ρ o (valL h r vs):=by
 unfold qkB at hc;split at hc
 ·rename_i ho;split at hc
  ·rename_i j e _ _;cases hs:ji P e with
   |none=>simp[hs]at hc
   |some sz=>simp[hs]at hc;obtain⟨rfl,rfl⟩:=hc;simp[R.kd]at hk
  ·cases hc;simp[R.kd]at hk
 ·rename_i ho;split at hc
  ·rename_i j e _ _;cases hs:ji P e with
   |none=>simp[hs]at hc
   |some sz=>simp[hs]at hc;obtain⟨rfl,rfl⟩:=hc;simp[R.kd]at hk
  ·cases hc;simp[R.kd]at hk
 ·rename_i x _ ho;cases hc;simp[R.kd]at hk
 ·rename_i x _ ho;cases hc;simp[R.kd]at hk
 ·cases hc;simp[R.kd]at hk
 ·rename_i op t x y u ho;split at hc
  ·cases hc;simp[R.kd]at hk
  ·cases hc;simp[R.kd]at hk
  ·rename_i ht;split at hc
   ·cases hc;simp[R.kd]at hk
   ·cases hc;simp[R.kd]at hk
   ·cases hc
  ·rename_i fs ht;split at hc
   ·rename_i ks hks hb;simp at hb;split at hc
    ·cases hc;simp[R.kd]at hk
    ·cases hc;simp[R.kd]at hk
    ·cases hc
   ·cases hc
  ·rename_i d _ _ _ _ ht;split at hc
   ·rename_i k hk';obtain⟨n,z,v,rfl,rfl,h1,h2,h3⟩:=kY hc;simp[R.kd]at hk
   ·cases hc
  ·cases hc
 ·rename_i op t x ho;cases hc;simp[R.kd]at hk
 ·rename_i s d x ho;split at hc
  ·rename_i j k h1 h2;cases hc;simp[R.kd]at hk
  ·split at hc
   ·split at hc<;>(cases hc;simp[R.kd]at hk)
   ·cases hc
  ·rename_i e h1 h2;split at hc
   ·rename_i hu;cases hc;exact qAN ho h1 h2 (qdI hu) H hv hok
   ·cases hc
  ·cases hc
 ·rename_i t x f ho;cases hf:km P t f with
  |none=>simp[hf]at hc
  |some p=>simp[hf]at hc;obtain⟨rfl,rfl⟩:=hc;simp[R.kd]at hk
 ·rename_i x i ho;cases hc;simp[R.kd]at hk
 ·rename_i t ps ho;split at hc
  ·rename_i z l hz hl hb;cases hc;simp[R.kd]at hk
  ·cases hc
 ·rename_i f first cap ho;cases hc;simp[R.kd]at hk
 ·rename_i t x i ho;split at hc
  ·rename_i ht;cases hc;simp[R.kd]at hk
  ·split at hc
   ·cases hc;simp[R.kd]at hk
   ·cases hc
  ·cases hc
 ·rename_i t x lo hi ho;split at hc
  ·rename_i ht;cases hc;simp[R.kd]at hk
  ·rename_i e ht;cases hs:P.info? e with
   |none=>simp[ji,hs]at hc
   |some i=>simp[ji,hs]at hc;obtain⟨rfl,rfl⟩:=hc;exact qAR ho ht hs H hv hok
  ·cases hc
 ·rename_i t x i ho;split at hc
  ·rename_i e ht;cases hs:P.info? e with
   |none=>simp[ji,hs]at hc
   |some i=>simp[ji,hs]at hc;obtain⟨rfl,rfl⟩:=hc;exact quA ho ht hs H hv hok
  ·rename_i n e ht;split at hc
   ·cases hs:ji P e with
    |none=>simp[hs]at hc
    |some sz=>simp[hs]at hc;obtain⟨rfl,rfl⟩:=hc;simp[R.kd]at hk
   ·cases hs:P.info? e with
    |none=>simp[ji,hs]at hc
    |some i=>simp[ji,hs]at hc;obtain⟨rfl,rfl⟩:=hc;exact qmi ho ht hs H hv hok
  ·cases hc
 ·rename_i t x f ho;cases hf:km P t f with
  |none=>simp[hf]at hc
  |some p=>simp[hf]at hc;obtain⟨rfl,rfl⟩:=hc;exact quz ho hf H hv hok
 ·rename_i t x ho;cases hf:qaa P t with
  |none=>simp[hf]at hc
  |some p=>simp[hf]at hc;obtain⟨rfl,rfl⟩:=hc;exact quB ho hf H hv hok
 ·rename_i x ho;cases hc;exact qAQ ho H hv hok
 ·split at hc
  ·cases hc;simp[R.kd]at hk
  ·cases hc
 ·rename_i t x ho;cases hf:qai js o.dst with
  |none=>simp[hf]at hc
  |some p=>simp[hf]at hc;obtain⟨rfl,rfl⟩:=hc;simp[R.kd]at hk
 ·rename_i t a x ho;cases hf:ji P t with
  |none=>simp[hf]at hc
  |some p=>simp[hf]at hc;obtain⟨rfl,rfl⟩:=hc;simp[R.kd]at hk
 ·split at hc
  ·split at hc
   ·cases hc;simp[R.kd]at hk
   ·cases hc
  ·cases hc
 ·split at hc
  ·split at hc
   ·simp at hc;obtain⟨_,rfl,rfl⟩:=hc;simp[R.kd]at hk
   ·cases hc
  ·cases hc
 ·rename_i c ho;split at hc
  ·split at hc
   ·split at hc
    ·rename_i hb _ _ _ _ e1 e2 _ _ ht;cases hc;exact qAP ho hb e1 e2 ht H hv hok
    ·cases hc;simp[R.kd]at hk
    ·cases hc
   ·cases hc
  ·rename_i hb;split at hc
   ·rename_i e1 e2;split at hc
    ·rename_i ht;cases hc;exact qAO ho hb e1 e2 ht hv hok
    ·cases hc
   ·cases hc
  ·rename_i hcal;split at hc
   ·split at hc
    ·cases hc;simp[R.kd]at hk
    ·cases hc
   ·cases hc
  ·rename_i hcal;split at hc
   ·split at hc
    ·cases hc;simp[R.kd]at hk
    ·cases hc
   ·cases hc
  ·split at hc
   ·split at hc
    ·simp at hc;obtain⟨_,i,hi,rfl,rfl⟩:=hc;simp[R.kd]at hk
    ·simp at hc;obtain⟨_,rfl,rfl⟩:=hc;simp[R.kd]at hk
    ·cases hc
   ·cases hc
  ·split at hc
   ·split at hc
    ·split at hc
     ·cases hc;simp[R.kd]at hk
     ·cases hc
    ·cases hc
   ·cases hc
  ·split at hc
   ·cases hc;simp[R.kd]at hk
   ·cases hc
  ·cases hc;simp[R.kd]at hk
  ·cases hc
 ·cases hc
end
end AF
end
abbrev wh:=List AF.AObj
abbrev wi:=List AF.AV
