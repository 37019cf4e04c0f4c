import Derived.Test.YtiiegfkjmnoijaaGreatDoorK0
import Derived.Test.YtiiegfkjmnoijaaGreatDoorK18
import Derived.Test.YtiiegfkjmnoijaaGreatDoorK9
import Derived.Test.YtiiegfkjmnoijaaGreatDoorK6
import Derived.Test.YtiiegfkjmnoijaaGreatDoorRows
import Derived.Test.YtiiegfkjmnoijaaGreatDoorTie
import Derived.Test.YtiiegfkjmnoijaaGreatDoorCards
import Derived.ProofKit
import Derived.ChangeMaps5
import Derived.OpenShut
import Derived.LaidMore
import Derived.Lay
import Derived.SevenTiedAt
import Derived.Stop.Joined
set_option linter.all false
open Go Go.Proofs AF HY RC LN Go.ChangeShapes Go.WideShapes Go.ChangeAt Go.RowKit
set_option maxRecDepth 100000
namespace Go.Proofs.YtiiegfkjmnoijaaGreatDoor
theorem own:ownKnob Tryz.prog.godebug=none:=by kernel_rfl
theorem laid:laidOutB Tryz.prog=true:=wp1
theorem qlu{H:Type}{enc:TypeId×Value->H}{P:Program}{w:World}{base:Nat}{spare:Nat->Bool}{held:Bool}{t0 t1 t2:TypeId}{args:Array Value}{ds:List (DataW H)}{ps:List MemPlace}
  (h:DataW.TrodAll enc P w base spare held [t0,t1,t2] args.toList ds ps):
  ∃v0 v1 v2 d0 d1 d2 p0 p1 p2,args= #[v0,v1,v2]∧ds= [d0,d1,d2]∧DataW.Trod enc P w base spare held t0 v0 d0 p0∧DataW.Trod enc P w base spare held t1 v1 d1 p1∧DataW.Trod enc P w base spare held t2 v2 d2 p2:=by
 obtain⟨v0,vs0,d0,ds0,p0,q0,hargs,rfl,rfl,hd0,hr0⟩:=trodAll_cons h;obtain⟨v1,vs1,d1,ds1,p1,q1,rfl,rfl,rfl,hd1,hr1⟩:=trodAll_cons hr0;obtain⟨v2,vs2,d2,ds2,p2,q2,rfl,rfl,rfl,hd2,hr2⟩:=trodAll_cons hr1;obtain⟨rfl,rfl,rfl⟩:=trodAll_nil hr2;exact⟨v0,v1,v2,d0,d1,d2,p0,p1,p2,by cases args;simp_all,rfl,hd0,hd1,hd2⟩
theorem qio:Tryz.prog.cellsOf 3=1:=by kernel_rfl
theorem qeL:Tryz.prog.cellsOf 9=1:=by kernel_rfl
theorem qq1:Tryz.prog.cellsOf 22=1:=by kernel_rfl
theorem qq2:Tryz.prog.cellsOf 23=1:=by kernel_rfl
theorem qq3:Tryz.prog.cellsOf 24=1:=by kernel_rfl
theorem qq4:Tryz.prog.cellsOf 26=4:=by kernel_rfl
theorem qq5:Tryz.prog.cellsOf 43=4:=by kernel_rfl
theorem qq6:Tryz.prog.cellsOf 88=2:=by kernel_rfl
theorem qq7:Tryz.prog.cellsOf 92=6:=by kernel_rfl
theorem qwg:SY Tryz.prog 8 26=true:=by kernel_rfl
theorem qwh:SY Tryz.prog 8 27=true:=by kernel_rfl
theorem me{d:Nat}{t:TypeId}{fs:Array Field}{zs:wi}(ht:Tryz.prog.underlying t=some (.struct fs))(h:jy Tryz.prog (d+1) t zs):zs.length=Tryz.prog.cellsOf t∧ ∀f∈fs.toList,jy Tryz.prog d f.type ((zs.drop f.offset).take (Tryz.prog.cellsOf f.type)):=by
 unfold jy at h;rw[ht]at h;exact h
theorem kk{d:Nat}{t e:TypeId}{zs:wi}(ht:Tryz.prog.underlying t=some (.slice e))(h:jy Tryz.prog (d+1) t zs): ∃(n:Nat) (f:Nat->wi),zs= [.sl n f]∧n<=maxLen∧ ∀i,i<n->jy Tryz.prog d e (f i):=by
 unfold jy at h;rw[ht]at h;exact h
theorem TG{d:Nat}{t:TypeId}{k:IntKind}{zs:wi}(ht:Tryz.prog.underlying t=some (.int k))(h:jy Tryz.prog (d+1) t zs): ∃n,zs= [.int k n]:=by
 unfold jy at h;rw[ht]at h;obtain⟨n,h,_⟩:=h;exact⟨n,h⟩
theorem kN{d:Nat}{t:TypeId}{zs:wi}(ht:Tryz.prog.underlying t=some .string)(h:jy Tryz.prog (d+1) t zs): ∃n,zs= [.str n]:=by
 unfold jy at h;rw[ht]at h;obtain⟨n,h,_⟩:=h;exact⟨n,h⟩
theorem qn8{W:World}{base:Nat}{t e:TypeId}{v:Value}(ht:Tryz.prog.underlying t=some (.slice e))(hval:Value.okWide Tryz.prog W .any base t v):v.cells= #[v]:=by
 unfold Value.okWide at hval;rw[ht]at hval;simp only at hval;unfold Cell.okWide Cell.ok at hval;rw[ht]at hval;cases v<;>first|rfl|(exfalso;simp at hval)
theorem qAK{d:Nat}{zs:wi}(h:jy Tryz.prog (d+2) 43 zs): ∃x:Dc,zs=dcC x:=by
 obtain⟨hl,hf⟩:=me Tryz.underlying43 h;simp only[List.mem_cons,List.not_mem_nil,or_false,forall_eq_or_imp,forall_eq,qio,qeL]at hf;obtain⟨h0,h1,h2,h3⟩:=hf;rw[qq5]at hl
 match zs,hl with
 | [z0,z1,z2,z3],_=>
  obtain⟨x0,e0⟩:=TG Tryz.underlying3 h0;obtain⟨x1,e1⟩:=kN Tryz.underlying9 h1;obtain⟨x2,e2⟩:=TG Tryz.underlying3 h2;obtain⟨x3,e3⟩:=kN Tryz.underlying9 h3;simp at e0 e1 e2 e3;subst e0 e1 e2 e3;exact⟨⟨x0,x1,x2,x3⟩,rfl⟩
theorem qwe{d:Nat}{zs:wi}(h:jy Tryz.prog (d+3) 27 zs): ∃(a:AV) (l:List Dc),zs= [a]∧l.length<=9223372036854775807∧ILe a (kz l):=by
 obtain⟨n,f,rfl,hn,hfi⟩:=kk Tryz.underlying27 h;have key: ∀i,i<n-> ∃x:Dc,f i=dcC x:=λi hi=>qAK (hfi i hi)
 let l:List Dc:=(List.range n).map λi=>if hi:i<n then (key i hi).choose else default
 have hln:l.length=n:=by simp[l]
 have hg: ∀i (hi:i<n),l.getD i default=(key i hi).choose:=λi hi=>by simp[l,gdqA,hi]
 refine⟨_,l,rfl,by rw[hln];unfold maxLen at hn;omega,?_⟩
 ·unfold kz;rw[hln];refine ILe.sl_eq (λi hi=> ?_);rw[hg i hi];exact (key i hi).choose_spec
theorem qky{H:Type}{enc:TypeId×Value->H}{W:World}{base:Nat}{v:Value}{d:DataW H}{ps:List MemPlace}(hval:Value.okWide Tryz.prog W .any base 27 v)(h:DataW.Trod enc Tryz.prog W 0 (λ_=>true) true 27 v d ps):
  ∃l:List Dc,l.length<=9223372036854775807∧VR W [] (kz l) v:=by
 obtain⟨z,hg,hvi⟩:=qom (ow:=AF.own []) qj2 qwh (qn8 Tryz.underlying27 hval) h;obtain⟨a,ps,e,hl,hil⟩:=qwe hg;simp at e;subst e;exact⟨ps,hl,.imm (hil _ _ _ hvi)⟩
theorem qlo{d:Nat}{zs:wi}(h:jy Tryz.prog (d+2) 22 zs): ∃(a:AV) (l:List (List UInt8)),zs= [a]∧l.length<=9223372036854775807∧ILe a (HY.strs l):=by
 obtain⟨n,f,rfl,hn,hfi⟩:=kk Tryz.underlying22 h;have key: ∀i,i<n-> ∃x:(List UInt8),f i= [.str x]:=λi hi=>kN Tryz.underlying9 (hfi i hi)
 let l:List (List UInt8):=(List.range n).map λi=>if hi:i<n then (key i hi).choose else []
 have hln:l.length=n:=by simp[l]
 have hg: ∀i (hi:i<n),l.getD i []=(key i hi).choose:=λi hi=>by simp[l,gdqA,hi]
 refine⟨_,l,rfl,by rw[hln];unfold maxLen at hn;omega,?_⟩
 ·unfold HY.strs;rw[hln];refine ILe.sl_eq (λi hi=> ?_);rw[hg i hi];exact (key i hi).choose_spec
theorem qr6{d:Nat}{zs:wi}(h:jy Tryz.prog (d+2) 39 zs): ∃(a:AV) (l:List Int),zs= [a]∧l.length<=9223372036854775807∧ILe a (qy l):=by
 obtain⟨n,f,rfl,hn,hfi⟩:=kk Tryz.underlying39 h;have key: ∀i,i<n-> ∃x:Int,f i= [.int .i64 x]:=λi hi=>TG Tryz.underlying3 (hfi i hi)
 let l:List Int:=(List.range n).map λi=>if hi:i<n then (key i hi).choose else 0
 have hln:l.length=n:=by simp[l]
 have hg: ∀i (hi:i<n),l.getD i 0=(key i hi).choose:=λi hi=>by simp[l,gdqA,hi]
 refine⟨_,l,rfl,by rw[hln];unfold maxLen at hn;omega,?_⟩
 ·unfold qy;rw[hln];refine ILe.sl_eq (λi hi=> ?_);rw[hg i hi];exact (key i hi).choose_spec
theorem qnC{d:Nat}{zs:wi}(h:jy Tryz.prog (d+2) 39 zs): ∃l:List Int,l.length<=9223372036854775807∧U3 zs [qy l]:=by
 obtain⟨a,l,rfl,hl,hi⟩:=qr6 h;exact⟨l,hl,hi,trivial⟩
theorem qBQ{d:Nat}{zs:wi}(h:jy Tryz.prog (d+3) 92 zs): ∃x:Tk,zs=tkC x:=by
 obtain⟨hl,hf⟩:=me Tryz.underlying92 h;simp only[List.mem_cons,List.not_mem_nil,or_false,forall_eq_or_imp,forall_eq,qio,qeL,qq6]at hf;obtain⟨h0,h1,h2,h3,h4⟩:=hf;rw[qq7]at hl
 match zs,hl with
 | [z0,z1,z2,z3,z4,z5],_=>
  obtain⟨hp,hg⟩:=me Tryz.underlying88 h2;simp only[List.mem_cons,List.not_mem_nil,or_false,forall_eq_or_imp,forall_eq,qeL,qio]at hg;obtain⟨g0,g1⟩:=hg;obtain⟨x0,e0⟩:=kN Tryz.underlying9 h0;obtain⟨x1,e1⟩:=kN Tryz.underlying9 h1;obtain⟨x2,e2⟩:=kN Tryz.underlying9 g0;obtain⟨x3,e3⟩:=TG Tryz.underlying3 g1;obtain⟨x4,e4⟩:=TG Tryz.underlying3 h3;obtain⟨x5,e5⟩:=kN Tryz.underlying9 h4;simp at e0 e1 e2 e3 e4 e5;subst e0 e1 e2 e3 e4 e5;exact⟨⟨x0,x1,x2,x3,x4,x5⟩,rfl⟩
theorem qzq{d:Nat}{zs:wi}(h:jy Tryz.prog (d+4) 93 zs): ∃(a:AV) (l:List Tk),zs= [a]∧l.length<=9223372036854775807∧ILe a (zT l):=by
 obtain⟨n,f,rfl,hn,hfi⟩:=kk Tryz.underlying93 h;have key: ∀i,i<n-> ∃x:Tk,f i=tkC x:=λi hi=>qBQ (hfi i hi)
 let l:List Tk:=(List.range n).map λi=>if hi:i<n then (key i hi).choose else default
 have hln:l.length=n:=by simp[l]
 have hg: ∀i (hi:i<n),l.getD i default=(key i hi).choose:=λi hi=>by simp[l,gdqA,hi]
 refine⟨_,l,rfl,by rw[hln];unfold maxLen at hn;omega,?_⟩
 ·unfold zT;rw[hln];refine ILe.sl_eq (λi hi=> ?_);rw[hg i hi];exact (key i hi).choose_spec
theorem qtm{d:Nat}{zs:wi}(h:jy Tryz.prog (d+4) 93 zs): ∃l:List Tk,l.length<=9223372036854775807∧U3 zs [zT l]:=by
 obtain⟨a,l,rfl,hl,hi⟩:=qzq h;exact⟨l,hl,hi,trivial⟩
theorem qtn{d:Nat}{zs:wi}(h:jy Tryz.prog (d+5) 23 zs): ∃(a:AV) (l:List (List Tk)),zs= [a]∧l.length<=9223372036854775807∧(∀i,(l.getD i []).length<=9223372036854775807)∧ILe a (qm l):=by
 obtain⟨n,f,rfl,hn,hfi⟩:=kk Tryz.underlying23 h;have key: ∀i,i<n-> ∃x:(List Tk),x.length<=9223372036854775807∧U3 (f i) [zT x]:=λi hi=>qtm (hfi i hi)
 let l:List (List Tk):=(List.range n).map λi=>if hi:i<n then (key i hi).choose else []
 have hln:l.length=n:=by simp[l]
 have hg: ∀i (hi:i<n),l.getD i []=(key i hi).choose:=λi hi=>by simp[l,gdqA,hi]
 refine⟨_,l,rfl,by rw[hln];unfold maxLen at hn;omega,?_,?_⟩
 ·intro i
  by_cases hi:i<n
  ·rw[hg i hi];exact (key i hi).choose_spec.1
  ·rw[gdqA,List.getElem?_eq_none om]
   first|exact nzl _|exact⟨nzl _,nzl _,λ_=>nzl _,λ_=>nzl _⟩
 ·unfold qm;rw[hln];refine ILe.sl (λi hi=> ?_);rw[hg i hi];exact (key i hi).choose_spec.2
theorem qrd{d:Nat}{zs:wi}(h:jy Tryz.prog (d+3) 24 zs): ∃(a:AV) (l:List (List Int)),zs= [a]∧l.length<=9223372036854775807∧(∀i,(l.getD i []).length<=9223372036854775807)∧ILe a (qp l):=by
 obtain⟨n,f,rfl,hn,hfi⟩:=kk Tryz.underlying24 h;have key: ∀i,i<n-> ∃x:(List Int),x.length<=9223372036854775807∧U3 (f i) [qy x]:=λi hi=>qnC (hfi i hi)
 let l:List (List Int):=(List.range n).map λi=>if hi:i<n then (key i hi).choose else []
 have hln:l.length=n:=by simp[l]
 have hg: ∀i (hi:i<n),l.getD i []=(key i hi).choose:=λi hi=>by simp[l,gdqA,hi]
 refine⟨_,l,rfl,by rw[hln];unfold maxLen at hn;omega,?_,?_⟩
 ·intro i
  by_cases hi:i<n
  ·rw[hg i hi];exact (key i hi).choose_spec.1
  ·rw[gdqA,List.getElem?_eq_none om]
   first|exact nzl _|exact⟨nzl _,nzl _,λ_=>nzl _,λ_=>nzl _⟩
 ·unfold qp;rw[hln];refine ILe.sl (λi hi=> ?_);rw[hg i hi];exact (key i hi).choose_spec.2
theorem qAG{d:Nat}{zs:wi}(h:jy Tryz.prog (d+6) 26 zs): ∃x:Co,CoB x∧U3 zs (coC x):=by
 obtain⟨hl,hf⟩:=me Tryz.underlying26 h;simp only[List.mem_cons,List.not_mem_nil,or_false,forall_eq_or_imp,forall_eq,qeL,qq1,qq2,qq3]at hf;obtain⟨h0,h1,h2,h3⟩:=hf;rw[qq4]at hl
 match zs,hl with
 | [a,b,c,e],_=>
  obtain⟨x0,e0⟩:=kN Tryz.underlying9 h0;obtain⟨a1,x1,e1,l1,i1⟩:=qlo h1;obtain⟨a2,x2,e2,l2,_,i2⟩:=qtn h2;obtain⟨a3,x3,e3,l3,_,i3⟩:=qrd h3;simp at e0 e1 e2 e3;subst e0 e1 e2 e3;exact⟨⟨x0,x1,x2,x3⟩,⟨l1,l2,l3⟩,ILe.refl _,i1,i2,i3,trivial⟩
theorem qkx{H:Type}{enc:TypeId×Value->H}{W:World}{base:Nat}{v:Value}{d:DataW H}{ps:List MemPlace}(hval:Value.okWide Tryz.prog W .any base 26 v)(h:DataW.Trod enc Tryz.prog W 0 (λ_=>true) true 26 v d ps):
  ∃x:Co,CoB x∧VR W [] (.agg (coC x)) v:=by
 unfold Value.okWide at hval;rw[Tryz.underlying26]at hval;simp only at hval;obtain⟨cs,rfl,_,_⟩:=hval;obtain⟨zs,hg,hvi⟩:=qol (ow:=AF.own []) qj2 qwg h;obtain⟨a,h1,hil⟩:=qAG hg;exact⟨a,h1,.imm (ILe.agg hil _ _ _ hvi)⟩
theorem qau(os:Os)(started:os.Started)(H:Type)(enc:TypeId×Value->H):
  ReturnsInHanded {} Tryz.checked os 12 .any (λw args=>(Rows.provenanceExplainsSpec.pre enc Tryz.prog Tryz.f12 Rows.provenanceExplainsRow.domain false w args∧laidMetH Tryz.prog Rows.provenanceExplainsRow.laid w)∧sizedMet enc Tryz.prog Tryz.f12 (OpenSpec.ofChange Rows.provenanceExplainsSpec) false w args)
   (Rows.provenanceExplainsSpec.post enc Tryz.prog Tryz.f12 false true false false):=by
 refine returnsInHanded_of_change_and (C:=Tryz.checked) (X:=λw _=>laidMetH Tryz.prog Rows.provenanceExplainsRow.laid w) (λ_ _ _ hh h=>h.of_heap hh) own started (by kernel_rfl) Tryz.func12
  (ChangeSpec.witness_shaped (enc:=enc) (C:=Tryz.checked) (os:=os) (X:=λw _=>laidMetH Tryz.prog Rows.provenanceExplainsRow.laid w) false (World.laidAll Tryz.prog os Rows.provenanceExplainsRow.laid) #[.agg #[.string ByteArray.empty,.slice none 0 0,.slice none 0 0,.slice none 0 0],.slice none 0 0,.int .u8 0] 8 (World.laidAll_os _ _ _)
   (World.shaped_of_ZipB (by kernel_rfl) (by kernel_rfl)) (by kernel_rfl) (by kernel_rfl) (by kernel_rfl)
   (by rw[MakeChecks.laidMetH_plain _ _ _ (by kernel_rfl)];exact laidMet_laidAll _ (by kernel_rfl) (by kernel_rfl))) ?_
 intro W base args ds gs before hval hW _ _ hX _;have hX:laidMetH Tryz.prog Rows.provenanceExplainsRow.laid W:=hX;rw[MakeChecks.laidMetH_plain _ _ _ (by kernel_rfl)]at hX;refine qc5 (tb:=4) (bs:=U0) (G:=qzh) laid rfl ?_ (by kernel_rfl) Tryz.underlying4 ?_ hW (qoG hX) (qtd hX) ?_
 ·intro ds' h'
  match ds',h' with
  | [a0,a1,a2],_=>rfl
 ·intro t ht;rw[show Tryz.f12.params.toList= [26,27,5] by rw[Tryz.params12]]at ht;simp only[List.mem_cons,List.not_mem_nil,or_false]at ht;rcases ht with rfl|rfl|rfl<;>exact⟨by kernel_rfl,of_decide_eq_true (by kernel_rfl)⟩
 ·intro p hA;rw[Tryz.params12]at hA hval;obtain⟨v0,v1,v2,d0,d1,d2,p0,p1,p2,rfl,rfl,h0,h1,h2⟩:=qlu hA;obtain⟨x0,hb0,hv0⟩:=qkx (hval 0 26 v0 rfl rfl) h0;obtain⟨l1,hl1,hv1⟩:=qky (hval 1 27 v1 rfl rfl) h1;obtain⟨n2,rfl,_,_,w2⟩:=open_int Tryz.underlying5 (hval 2 5 v2 rfl rfl) h2;have hl2:(0:Int)<=n2∧n2<=255:=by simpa[Lit.wf,IntKind.min,IntKind.max,IntKind.signed,IntKind.bits] using w2
  refine⟨by rw[Tryz.params12];rfl,[(.agg (coC x0)),kz l1,.int .u8 n2],?_,by obtain⟨q,rfl⟩: ∃q:Nat,n2=q:=⟨n2.toNat,om⟩;exact qyu x0 l1 q [.pin U0 qzh] om qtc qtb hb0 hl1⟩;exact VRs.cons' hv0 (VRs.cons' hv1 (VRs.cons' (.imm .int) (VRs.nil')))
end Go.Proofs.YtiiegfkjmnoijaaGreatDoor
