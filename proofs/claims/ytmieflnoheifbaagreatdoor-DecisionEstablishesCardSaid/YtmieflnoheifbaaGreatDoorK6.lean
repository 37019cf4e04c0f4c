import Derived.Test.YtmieflnoheifbaaGreatDoorK4
set_option linter.all false
section
namespace AF
open Go
theorem HR.recell{w:World}{σ:List OB}{h:wh}(H:HR w σ h){k v:Nat}{ty:TypeId}{cs cs':wi}{o:OB}{b:Nat}{arr:Array Value}(hk:qu k h=some (.mem v ty cs))(ho:σ[k]? =some o)(hb:o.blk=some b)(hB:Blk w b arr o.ty)(hsz:arr.size=o.size)
  (hl:cs'.length<=arr.size) (h1: ∀(i:Nat) x,i<cs'.length->arr[i]? =some x->x.oneCell'=true) (hv: ∀(i:Nat) c x,cs'[i]? =some c->arr[i]? =some x->VR w σ c x):HR w σ (qt k h (.mem v ty cs')):=by
 have hkl:=zR hk;refine⟨by rw[H.len,qO],H.inj,H.lt,λi a oi ha hoi=> ?_⟩
 by_cases e:i=k
 ·subst e
  have:=jA (o:= .mem v ty cs') hkl
  unfold qu at this;rw[this]at ha;cases ha;rw[ho]at hoi;cases hoi;have hobj:=H.obj i _ o hk ho;obtain⟨m1,m2,_⟩:=hobj;exact⟨m1,m2,b,arr,hb,hB,hsz,hl,h1,hv⟩
 ·refine H.obj i a oi ?_ hoi;simp only[qt]at ha
  rwa [List.getElem?_set_ne (λe2=>e e2.symm)]at ha
def qr9(n:Nat)(H:wh):wi->wi->Prop
 | [],[]=>True
 |a::l,b::m=>VOut n H a b∧qr9 n H l m
 |_,_=>False
theorem qr9.get{n:Nat}{H:wh}: ∀ {l m:wi},qr9 n H l m->l.length=m.length∧ ∀(i:Nat) c,m[i]? =some c-> ∃a,l[i]? =some a∧VOut n H a c:=by
 intro l
 induction l with
 |nil=>intro m h;cases m with
  |nil=>exact⟨rfl,by simp⟩
  |cons=>exact h.elim
 |cons a l ih=>intro m h;cases m with
  |nil=>exact h.elim
  |cons b m=>
   obtain⟨h1,h2⟩:=ih h.2;refine⟨by simp[h1],λi c hc=> ?_⟩;cases i with
   |zero=>simp at hc;subst hc;exact⟨a,rfl,h.1⟩
   |succ i=>exact h2 i c (by simpa using hc)
end AF
end
