import Derived.Test.YtmieflnoheifbaaGreatDoorK0
import Derived.Test.YtmieflnoheifbaaGreatDoorK17
import Derived.Test.YtmieflnoheifbaaGreatDoorK9
import Derived.Test.YtmieflnoheifbaaGreatDoorK6
import Derived.Test.YtmieflnoheifbaaGreatDoorRows
import Derived.Test.YtmieflnoheifbaaGreatDoorTie
import Derived.Test.YtmieflnoheifbaaGreatDoorCards
import Derived.ProofKit
import Derived.ChangeMaps5
import Derived.OpenShut
import Derived.LaidMore
import Derived.Lay
import Derived.SevenTiedAt
import Derived.Stop.Joined
set_option linter.all false
open Go Go.Proofs AF HY RC LN Go.ChangeShapes Go.WideShapes Go.ChangeAt Go.RowKit
set_option maxRecDepth 100000
namespace Go.Proofs.YtmieflnoheifbaaGreatDoor
theorem own:ownKnob Tryz.prog.godebug=none:=by kernel_rfl
theorem laid:laidOutB Tryz.prog=true:=wp1
theorem qnA{H:Type}{enc:TypeId×Value->H}{P:Program}{w:World}{base:Nat}{spare:Nat->Bool}{held:Bool}{t0 t1:TypeId}{args:Array Value}{ds:List (DataW H)}{ps:List MemPlace}
  (h:DataW.TrodAll enc P w base spare held [t0,t1] args.toList ds ps):
  ∃v0 v1 d0 d1 p0 p1,args= #[v0,v1]∧ds= [d0,d1]∧DataW.Trod enc P w base spare held t0 v0 d0 p0∧DataW.Trod enc P w base spare held t1 v1 d1 p1:=by
 obtain⟨v0,vs0,d0,ds0,p0,q0,hargs,rfl,rfl,hd0,hr0⟩:=trodAll_cons h;obtain⟨v1,vs1,d1,ds1,p1,q1,rfl,rfl,rfl,hd1,hr1⟩:=trodAll_cons hr0;obtain⟨rfl,rfl,rfl⟩:=trodAll_nil hr1;exact⟨v0,v1,d0,d1,p0,p1,by cases args;simp_all,rfl,hd0,hd1⟩
theorem qrB:Tryz.prog.cellsOf 3=1:=by kernel_rfl
theorem qkl:Tryz.prog.cellsOf 9=1:=by kernel_rfl
theorem qs7:Tryz.prog.cellsOf 22=1:=by kernel_rfl
theorem qs8:Tryz.prog.cellsOf 23=1:=by kernel_rfl
theorem qs9:Tryz.prog.cellsOf 24=1:=by kernel_rfl
theorem qta:Tryz.prog.cellsOf 26=4:=by kernel_rfl
theorem qoP:Tryz.prog.cellsOf 117=2:=by kernel_rfl
theorem qoQ:Tryz.prog.cellsOf 119=6:=by kernel_rfl
theorem qxK:qbi Tryz.prog 8 26=true:=by kernel_rfl
theorem UW{d:Nat}{t:TypeId}{fs:Array Field}{zs:wg}(ht:Tryz.prog.underlying t=some (.struct fs))(h:jC Tryz.prog (d+1) t zs):zs.length=Tryz.prog.cellsOf t∧ ∀f∈fs.toList,jC Tryz.prog d f.type ((zs.drop f.offset).take (Tryz.prog.cellsOf f.type)):=by
 unfold jC at h;rw[ht]at h;exact h
theorem kM{d:Nat}{t e:TypeId}{zs:wg}(ht:Tryz.prog.underlying t=some (.slice e))(h:jC Tryz.prog (d+1) t zs): ∃(n:Nat) (f:Nat->wg),zs= [.sl n f]∧n<=maxLen∧ ∀i,i<n->jC Tryz.prog d e (f i):=by
 unfold jC at h;rw[ht]at h;exact h
theorem qds{d:Nat}{t:TypeId}{k:IntKind}{zs:wg}(ht:Tryz.prog.underlying t=some (.int k))(h:jC Tryz.prog (d+1) t zs): ∃n,zs= [.int k n]:=by
 unfold jC at h;rw[ht]at h;obtain⟨n,h,_⟩:=h;exact⟨n,h⟩
theorem UI{d:Nat}{t:TypeId}{zs:wg}(ht:Tryz.prog.underlying t=some .string)(h:jC Tryz.prog (d+1) t zs): ∃n,zs= [.str n]:=by
 unfold jC at h;rw[ht]at h;obtain⟨n,h,_⟩:=h;exact⟨n,h⟩
theorem qnu{d:Nat}{zs:wg}(h:jC Tryz.prog (d+2) 22 zs): ∃(a:AV) (l:List (List UInt8)),zs= [a]∧l.length<=9223372036854775807∧ILe a (HY.strs l):=by
 obtain⟨n,f,rfl,hn,hfi⟩:=kM Tryz.underlying22 h;have key: ∀i,i<n-> ∃x:(List UInt8),f i= [.str x]:=λi hi=>UI Tryz.underlying9 (hfi i hi)
 let l:List (List UInt8):=(List.range n).map λi=>if hi:i<n then (key i hi).choose else []
 have hln:l.length=n:=by simp[l]
 have hg: ∀i (hi:i<n),l.getD i []=(key i hi).choose:=λi hi=>by simp[l,gdqA,hi]
 refine⟨_,l,rfl,by rw[hln];unfold maxLen at hn;omega,?_⟩
 ·unfold HY.strs;rw[hln];refine ILe.sl_eq (λi hi=> ?_);rw[hg i hi];exact (key i hi).choose_spec
theorem qt8{d:Nat}{zs:wg}(h:jC Tryz.prog (d+2) 51 zs): ∃(a:AV) (l:List Int),zs= [a]∧l.length<=9223372036854775807∧ILe a (qP l):=by
 obtain⟨n,f,rfl,hn,hfi⟩:=kM Tryz.underlying51 h;have key: ∀i,i<n-> ∃x:Int,f i= [.int .i64 x]:=λi hi=>qds Tryz.underlying3 (hfi i hi)
 let l:List Int:=(List.range n).map λi=>if hi:i<n then (key i hi).choose else 0
 have hln:l.length=n:=by simp[l]
 have hg: ∀i (hi:i<n),l.getD i 0=(key i hi).choose:=λi hi=>by simp[l,gdqA,hi]
 refine⟨_,l,rfl,by rw[hln];unfold maxLen at hn;omega,?_⟩
 ·unfold qP;rw[hln];refine ILe.sl_eq (λi hi=> ?_);rw[hg i hi];exact (key i hi).choose_spec
theorem qpN{d:Nat}{zs:wg}(h:jC Tryz.prog (d+2) 51 zs): ∃l:List Int,l.length<=9223372036854775807∧qc9 zs [qP l]:=by
 obtain⟨a,l,rfl,hl,hi⟩:=qt8 h;exact⟨l,hl,hi,trivial⟩
theorem qC4{d:Nat}{zs:wg}(h:jC Tryz.prog (d+3) 119 zs): ∃x:Tk,zs=tkC x:=by
 obtain⟨hl,hf⟩:=UW Tryz.underlying119 h;simp only[List.mem_cons,List.not_mem_nil,or_false,forall_eq_or_imp,forall_eq,qrB,qkl,qoP]at hf;obtain⟨h0,h1,h2,h3,h4⟩:=hf;rw[qoQ]at hl
 match zs,hl with
 | [z0,z1,z2,z3,z4,z5],_=>
  obtain⟨hp,hg⟩:=UW Tryz.underlying117 h2;simp only[List.mem_cons,List.not_mem_nil,or_false,forall_eq_or_imp,forall_eq,qkl,qrB]at hg;obtain⟨g0,g1⟩:=hg;obtain⟨x0,e0⟩:=UI Tryz.underlying9 h0;obtain⟨x1,e1⟩:=UI Tryz.underlying9 h1;obtain⟨x2,e2⟩:=UI Tryz.underlying9 g0;obtain⟨x3,e3⟩:=qds Tryz.underlying3 g1;obtain⟨x4,e4⟩:=qds Tryz.underlying3 h3;obtain⟨x5,e5⟩:=UI Tryz.underlying9 h4;simp at e0 e1 e2 e3 e4 e5;subst e0 e1 e2 e3 e4 e5;exact⟨⟨x0,x1,x2,x3,x4,x5⟩,rfl⟩
theorem qAC{d:Nat}{zs:wg}(h:jC Tryz.prog (d+4) 115 zs): ∃(a:AV) (l:List Tk),zs= [a]∧l.length<=9223372036854775807∧ILe a (ja l):=by
 obtain⟨n,f,rfl,hn,hfi⟩:=kM Tryz.underlying115 h;have key: ∀i,i<n-> ∃x:Tk,f i=tkC x:=λi hi=>qC4 (hfi i hi)
 let l:List Tk:=(List.range n).map λi=>if hi:i<n then (key i hi).choose else default
 have hln:l.length=n:=by simp[l]
 have hg: ∀i (hi:i<n),l.getD i default=(key i hi).choose:=λi hi=>by simp[l,gdqA,hi]
 refine⟨_,l,rfl,by rw[hln];unfold maxLen at hn;omega,?_⟩
 ·unfold ja;rw[hln];refine ILe.sl_eq (λi hi=> ?_);rw[hg i hi];exact (key i hi).choose_spec
theorem qvo{d:Nat}{zs:wg}(h:jC Tryz.prog (d+4) 115 zs): ∃l:List Tk,l.length<=9223372036854775807∧qc9 zs [ja l]:=by
 obtain⟨a,l,rfl,hl,hi⟩:=qAC h;exact⟨l,hl,hi,trivial⟩
theorem qvp{d:Nat}{zs:wg}(h:jC Tryz.prog (d+5) 23 zs): ∃(a:AV) (l:List (List Tk)),zs= [a]∧l.length<=9223372036854775807∧(∀i,(l.getD i []).length<=9223372036854775807)∧ILe a (qp l):=by
 obtain⟨n,f,rfl,hn,hfi⟩:=kM Tryz.underlying23 h;have key: ∀i,i<n-> ∃x:(List Tk),x.length<=9223372036854775807∧qc9 (f i) [ja x]:=λi hi=>qvo (hfi i hi)
 let l:List (List Tk):=(List.range n).map λi=>if hi:i<n then (key i hi).choose else []
 have hln:l.length=n:=by simp[l]
 have hg: ∀i (hi:i<n),l.getD i []=(key i hi).choose:=λi hi=>by simp[l,gdqA,hi]
 refine⟨_,l,rfl,by rw[hln];unfold maxLen at hn;omega,?_,?_⟩
 ·intro i
  by_cases hi:i<n
  ·rw[hg i hi];exact (key i hi).choose_spec.1
  ·rw[gdqA,List.getElem?_eq_none om]
   first|exact nzl _|exact⟨nzl _,nzl _,λ_=>nzl _,λ_=>nzl _⟩
 ·unfold qp;rw[hln];refine ILe.sl (λi hi=> ?_);rw[hg i hi];exact (key i hi).choose_spec.2
theorem qti{d:Nat}{zs:wg}(h:jC Tryz.prog (d+3) 24 zs): ∃(a:AV) (l:List (List Int)),zs= [a]∧l.length<=9223372036854775807∧(∀i,(l.getD i []).length<=9223372036854775807)∧ILe a (qw l):=by
 obtain⟨n,f,rfl,hn,hfi⟩:=kM Tryz.underlying24 h;have key: ∀i,i<n-> ∃x:(List Int),x.length<=9223372036854775807∧qc9 (f i) [qP x]:=λi hi=>qpN (hfi i hi)
 let l:List (List Int):=(List.range n).map λi=>if hi:i<n then (key i hi).choose else []
 have hln:l.length=n:=by simp[l]
 have hg: ∀i (hi:i<n),l.getD i []=(key i hi).choose:=λi hi=>by simp[l,gdqA,hi]
 refine⟨_,l,rfl,by rw[hln];unfold maxLen at hn;omega,?_,?_⟩
 ·intro i
  by_cases hi:i<n
  ·rw[hg i hi];exact (key i hi).choose_spec.1
  ·rw[gdqA,List.getElem?_eq_none om]
   first|exact nzl _|exact⟨nzl _,nzl _,λ_=>nzl _,λ_=>nzl _⟩
 ·unfold qw;rw[hln];refine ILe.sl (λi hi=> ?_);rw[hg i hi];exact (key i hi).choose_spec.2
theorem qB1{d:Nat}{zs:wg}(h:jC Tryz.prog (d+6) 26 zs): ∃x:Co,CoB x∧qc9 zs (coC x):=by
 obtain⟨hl,hf⟩:=UW Tryz.underlying26 h;simp only[List.mem_cons,List.not_mem_nil,or_false,forall_eq_or_imp,forall_eq,qkl,qs7,qs8,qs9]at hf;obtain⟨h0,h1,h2,h3⟩:=hf;rw[qta]at hl
 match zs,hl with
 | [a,b,c,e],_=>
  obtain⟨x0,e0⟩:=UI Tryz.underlying9 h0;obtain⟨a1,x1,e1,l1,i1⟩:=qnu h1;obtain⟨a2,x2,e2,l2,_,i2⟩:=qvp h2;obtain⟨a3,x3,e3,l3,_,i3⟩:=qti h3;simp at e0 e1 e2 e3;subst e0 e1 e2 e3;exact⟨⟨x0,x1,x2,x3⟩,⟨l1,l2,l3⟩,ILe.refl _,i1,i2,i3,trivial⟩
theorem qmE{H:Type}{enc:TypeId×Value->H}{W:World}{base:Nat}{v:Value}{d:DataW H}{ps:List MemPlace}(hval:Value.okWide Tryz.prog W .any base 26 v)(h:DataW.Trod enc Tryz.prog W 0 (λ_=>true) true 26 v d ps):
  ∃x:Co,CoB x∧VR W [] (.agg (coC x)) v:=by
 unfold Value.okWide at hval;rw[Tryz.underlying26]at hval;simp only at hval;obtain⟨cs,rfl,_,_⟩:=hval;obtain⟨zs,hg,hvi⟩:=qqy (ow:=AF.own []) quG qxK h;obtain⟨a,h1,hil⟩:=qB1 hg;exact⟨a,h1,.imm (ILe.agg hil _ _ _ hvi)⟩
theorem qct(os:Os)(started:os.Started)(H:Type)(enc:TypeId×Value->H):
  ReturnsInHanded {} Tryz.checked os 7 .any (λw args=>(Rows.topLemmataSpec.pre enc Tryz.prog Tryz.f7 Rows.topLemmataRow.domain false w args∧laidMetH Tryz.prog Rows.topLemmataRow.laid w)∧sizedMet enc Tryz.prog Tryz.f7 (OpenSpec.ofChange Rows.topLemmataSpec) false w args)
   (Rows.topLemmataSpec.post enc Tryz.prog Tryz.f7 false true false false):=by
 refine returnsInHanded_of_change_and (C:=Tryz.checked) (X:=λw _=>laidMetH Tryz.prog Rows.topLemmataRow.laid w) (λ_ _ _ hh h=>h.of_heap hh) own started (by kernel_rfl) Tryz.func7
  (ChangeSpec.witness_shaped (enc:=enc) (C:=Tryz.checked) (os:=os) (X:=λw _=>laidMetH Tryz.prog Rows.topLemmataRow.laid w) false (World.laidAll Tryz.prog os Rows.topLemmataRow.laid) #[.agg #[.string ByteArray.empty,.slice none 0 0,.slice none 0 0,.slice none 0 0],.int .u8 0] 8 (World.laidAll_os _ _ _)
   (World.shaped_of_ZipB (by kernel_rfl) (by kernel_rfl)) (by kernel_rfl) (by kernel_rfl) (by kernel_rfl)
   (by rw[MakeChecks.laidMetH_plain _ _ _ (by kernel_rfl)];exact laidMet_laidAll _ (by kernel_rfl) (by kernel_rfl))) ?_
 intro W base args ds gs before hval hW _ _ hX _;have hX:laidMetH Tryz.prog Rows.topLemmataRow.laid W:=hX;rw[MakeChecks.laidMetH_plain _ _ _ (by kernel_rfl)]at hX;refine qeH (tb:=4) (bs:=qbv) (G:=qAu) laid rfl ?_ (by kernel_rfl) Tryz.underlying4 ?_ hW (qqW hX) (qvk hX) ?_
 ·intro ds' h'
  match ds',h' with
  | [a0,a1],_=>rfl
 ·intro t ht;rw[show Tryz.f7.params.toList= [26,5] by rw[Tryz.params7]]at ht;simp only[List.mem_cons,List.not_mem_nil,or_false]at ht;rcases ht with rfl|rfl<;>exact⟨by kernel_rfl,of_decide_eq_true (by kernel_rfl)⟩
 ·intro p hA;rw[Tryz.params7]at hA hval;obtain⟨v0,v1,d0,d1,p0,p1,rfl,rfl,h0,h1⟩:=qnA hA;obtain⟨x0,hb0,hv0⟩:=qmE (hval 0 26 v0 rfl rfl) h0;obtain⟨n1,rfl,_,_,w1⟩:=open_int Tryz.underlying5 (hval 1 5 v1 rfl rfl) h1;have hl1:(0:Int)<=n1∧n1<=255:=by simpa[Lit.wf,IntKind.min,IntKind.max,IntKind.signed,IntKind.bits] using w1
  refine⟨by rw[Tryz.params7];rfl,[(.agg (coC x0)),.int .u8 n1],?_,by obtain⟨q,rfl⟩: ∃q:Nat,n1=q:=⟨n1.toNat,om⟩;exact qCF x0 q [.pin qbv qAu] om qvg qvf hb0⟩;exact VRs.cons' hv0 (VRs.cons' (.imm .int) (VRs.nil'))
end Go.Proofs.YtmieflnoheifbaaGreatDoor
