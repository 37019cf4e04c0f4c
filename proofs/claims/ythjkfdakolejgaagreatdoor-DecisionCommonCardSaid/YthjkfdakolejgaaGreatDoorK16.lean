import Derived.Test.YthjkfdakolejgaaGreatDoorK3
import Derived.Test.YthjkfdakolejgaaGreatDoorK5
import Derived.Test.YthjkfdakolejgaaGreatDoorK8
import Derived.Test.YthjkfdakolejgaaGreatDoorProg
import Derived.Test.YthjkfdakolejgaaGreatDoorK15
import Derived.Test.YthjkfdakolejgaaGreatDoorK14
import Derived.Test.YthjkfdakolejgaaGreatDoorK11
import Derived.Test.YthjkfdakolejgaaGreatDoorK12
import Derived.Test.YthjkfdakolejgaaGreatDoorK10
import Derived.Shelf.Strings.OnBuilder
import Derived.Test.YthjkfdakolejgaaGreatDoorK9
import Derived.Shelf.Slices.In.SortNone
import Derived.Lib.ItoaLen
set_option linter.all false
set_option linter.unusedSimpArgs false
set_option linter.unusedVariables false
set_option linter.unusedSectionVars false
set_option maxHeartbeats 256000000
set_option maxRecDepth 100000
section
open Go Go.Proofs AF
def qpZ:List Nat:= [79,78,81]
def qfZ:C:=
 ((C.ops [O1 4 (.box 0 26) 0,ON 8 (.nilo 1 7 36) [],MC 9 (i6 0)]).seq (((C.ops [O1 26 (.load (some 4)) 4,MV 27 1,O2 28 (.call 74 true) 26 27,MV 10 28]).seq ((C.ops [MV 29 10,
 BC 30 .neq 29 (i6 0)]).seq (C.cond (.t 30) ((C.ops [MV 31 10,ON 8 (.nilo 1 7 36) [],MV 9 31]).seq C.ret) C.skip))).seq (((C.ops [MV 32 3,BC 33 .lss 32 (i6 0),MV 34 33,MG 35 34
 false 3,P1 36 34 false (.fldA 1) 4,P1 37 34 false (.load none) 36,P1 38 34 false .len 37,P2 39 34 false (.bin .geq) 35 38,PT 40 34 39]).seq (C.cond (.t 40) ((C.ops [ON 8
 (.nilo 1 7 36) [],MC 9 (i6 2)]).seq C.ret) C.skip)).seq ((C.ops [O1 42 (.load (some 4)) 4,MV 43 1,MV 44 2,ON 45 (.call 77 true) [.t 42,.t 43,.t 44],MV 41 45,O1 46 (.ext 0)
 41,O1 47 (.ext 1) 41,MV 11 46,MV 12 47]).seq (((C.ops [MV 48 12,BC 49 .neq 48 (i6 0)]).seq (C.cond (.t 49) ((C.ops [MV 50 12,ON 8 (.nilo 1 7 36) [],MV 9 50]).seq C.ret)
 C.skip)).seq ((C.ops [⟨some 51,none,.bslc 2 1 1 3 [i6 0] [(0,1)],[.c (i6 (-1))]⟩,MV 52 1,O1 53 .len 52,O2 54 (.call 78 false) 51 53,MV 13 54]).seq (((C.ops [MV 55 11,O1 56
 .len 55,MC 57 (i6 0)]).seq (C.block 0 ((C.ops [BI 58 .lss 57 56]).seq ((C.cond (.t 58) C.skip (C.exit 0)).seq ((C.block 1 ((C.ops [MV 59 57,O2 60 (.idxA 1) 55 57,LD 61 60,MV 14
 59,MV 15 61]).seq (C.ops [MV 62 13,MV 63 15,MV 64 14,O2 65 (.idxA 1) 62 63,ST 1 65 64]))).seq (C.ops [BC 66 .add 57 (i6 1),MV 57 66])))).loop)).seq ((C.ops [⟨some 16,none,
 .alloc 3 29 [.nl],[]⟩]).seq ((C.wk.seq (C.ops [O1 67 (.mkfn (Fn.func 79) 0) 16,⟨some 17,none,.alloc 4 117 [.nilfn],[]⟩,ST 1 17 67])).seq ((C.ops [MC 18 (i6 0)]).seq (((C.draw
 (DT.one ⟨some 68,none,.mv,[.t 1]⟩ (DT.one ⟨some 80,none,.mv,[.c (i6 0)]⟩ ((DT.one ⟨some 69,none,.call 81 false,[.t 68]⟩ (DT.one ⟨some 70,none,.fldA 3,[.t 4]⟩ (DT.one
 ⟨some 71,none,.load none,[.t 70]⟩ (DT.one ⟨some 72,none,.len,[.t 71]⟩ (DT.one ⟨some 73,none,.fldA 3,[.t 4]⟩ (DT.one ⟨some 74,none,.load none,[.t 73]⟩ (DT.one ⟨some 75,
 none,.len,[.t 74]⟩ (DT.one ⟨some 76,none,.build [i6 0,i6 0,.nl] [(0,1),(1,1)],[.t 72,.t 75]⟩ (DT.one ⟨some 77,none,.bslc 5 3 1 64 [i6 0,i6 0,.nl] [(0,3)],[.t 76]⟩
 (DT.one ⟨some 78,none,.app 6 3 64 40,[.t 69,.t 77]⟩ (DT.one ⟨some 79,none,.len,[.t 78]⟩ DT.nil))))))))))).two ((DT.one ⟨some 70,none,.fldA 3,[.t 4]⟩ ((DT.one ⟨some 69,
 none,.call 81 false,[.t 68]⟩ (DT.one ⟨some 71,none,.load none,[.t 70]⟩ (DT.one ⟨some 72,none,.len,[.t 71]⟩ (DT.one ⟨some 73,none,.fldA 3,[.t 4]⟩ (DT.one ⟨some 74,none,
 .load none,[.t 73]⟩ (DT.one ⟨some 75,none,.len,[.t 74]⟩ (DT.one ⟨some 76,none,.build [i6 0,i6 0,.nl] [(0,1),(1,1)],[.t 72,.t 75]⟩ (DT.one ⟨some 77,none,.bslc 5 3 1
 64 [i6 0,i6 0,.nl] [(0,3)],[.t 76]⟩ (DT.one ⟨some 78,none,.app 6 3 64 40,[.t 69,.t 77]⟩ (DT.one ⟨some 79,none,.len,[.t 78]⟩ DT.nil)))))))))).two ((DT.one ⟨some 71,none,
 .load none,[.t 70]⟩ ((DT.one ⟨some 69,none,.call 81 false,[.t 68]⟩ (DT.one ⟨some 72,none,.len,[.t 71]⟩ (DT.one ⟨some 73,none,.fldA 3,[.t 4]⟩ (DT.one ⟨some 74,none,.load
 none,[.t 73]⟩ (DT.one ⟨some 75,none,.len,[.t 74]⟩ (DT.one ⟨some 76,none,.build [i6 0,i6 0,.nl] [(0,1),(1,1)],[.t 72,.t 75]⟩ (DT.one ⟨some 77,none,.bslc 5 3 1 64 [i6
 0,i6 0,.nl] [(0,3)],[.t 76]⟩ (DT.one ⟨some 78,none,.app 6 3 64 40,[.t 69,.t 77]⟩ (DT.one ⟨some 79,none,.len,[.t 78]⟩ DT.nil))))))))).two ((DT.one ⟨some 72,none,.len,
 [.t 71]⟩ ((DT.one ⟨some 69,none,.call 81 false,[.t 68]⟩ (DT.one ⟨some 73,none,.fldA 3,[.t 4]⟩ (DT.one ⟨some 74,none,.load none,[.t 73]⟩ (DT.one ⟨some 75,none,.len,[.t
 74]⟩ (DT.one ⟨some 76,none,.build [i6 0,i6 0,.nl] [(0,1),(1,1)],[.t 72,.t 75]⟩ (DT.one ⟨some 77,none,.bslc 5 3 1 64 [i6 0,i6 0,.nl] [(0,3)],[.t 76]⟩ (DT.one ⟨some
 78,none,.app 6 3 64 40,[.t 69,.t 77]⟩ (DT.one ⟨some 79,none,.len,[.t 78]⟩ DT.nil)))))))).two (DT.one ⟨some 73,none,.fldA 3,[.t 4]⟩ ((DT.one ⟨some 69,none,.call 81
 false,[.t 68]⟩ (DT.one ⟨some 74,none,.load none,[.t 73]⟩ (DT.one ⟨some 75,none,.len,[.t 74]⟩ (DT.one ⟨some 76,none,.build [i6 0,i6 0,.nl] [(0,1),(1,1)],[.t 72,.t
 75]⟩ (DT.one ⟨some 77,none,.bslc 5 3 1 64 [i6 0,i6 0,.nl] [(0,3)],[.t 76]⟩ (DT.one ⟨some 78,none,.app 6 3 64 40,[.t 69,.t 77]⟩ (DT.one ⟨some 79,none,.len,[.t 78]⟩
 DT.nil))))))).two (DT.one ⟨some 74,none,.load none,[.t 73]⟩ ((DT.one ⟨some 69,none,.call 81 false,[.t 68]⟩ (DT.one ⟨some 75,none,.len,[.t 74]⟩ (DT.one ⟨some 76,none,
 .build [i6 0,i6 0,.nl] [(0,1),(1,1)],[.t 72,.t 75]⟩ (DT.one ⟨some 77,none,.bslc 5 3 1 64 [i6 0,i6 0,.nl] [(0,3)],[.t 76]⟩ (DT.one ⟨some 78,none,.app 6 3 64 40,[.t
 69,.t 77]⟩ (DT.one ⟨some 79,none,.len,[.t 78]⟩ DT.nil)))))).two (DT.one ⟨some 75,none,.len,[.t 74]⟩ (DT.one ⟨some 76,none,.build [i6 0,i6 0,.nl] [(0,1),(1,1)],[.t
 72,.t 75]⟩ ((DT.one ⟨some 69,none,.call 81 false,[.t 68]⟩ (DT.one ⟨some 77,none,.bslc 5 3 1 64 [i6 0,i6 0,.nl] [(0,3)],[.t 76]⟩ (DT.one ⟨some 78,none,.app 6 3 64 40,
 [.t 69,.t 77]⟩ (DT.one ⟨some 79,none,.len,[.t 78]⟩ DT.nil)))).two (DT.one ⟨some 77,none,.bslc 5 3 1 64 [i6 0,i6 0,.nl] [(0,3)],[.t 76]⟩ (DT.one ⟨some 69,none,.call 81
 false,[.t 68]⟩ (DT.one ⟨some 78,none,.app 6 3 64 40,[.t 69,.t 77]⟩ (DT.one ⟨some 79,none,.len,[.t 78]⟩ DT.nil))))))))))))).two (DT.one ⟨some 73,none,.fldA 3,[.t 4]⟩
 ((DT.one ⟨some 69,none,.call 81 false,[.t 68]⟩ (DT.one ⟨some 72,none,.len,[.t 71]⟩ (DT.one ⟨some 74,none,.load none,[.t 73]⟩ (DT.one ⟨some 75,none,.len,[.t 74]⟩ (DT.one
 ⟨some 76,none,.build [i6 0,i6 0,.nl] [(0,1),(1,1)],[.t 72,.t 75]⟩ (DT.one ⟨some 77,none,.bslc 5 3 1 64 [i6 0,i6 0,.nl] [(0,3)],[.t 76]⟩ (DT.one ⟨some 78,none,.app
 6 3 64 40,[.t 69,.t 77]⟩ (DT.one ⟨some 79,none,.len,[.t 78]⟩ DT.nil)))))))).two ((DT.one ⟨some 72,none,.len,[.t 71]⟩ ((DT.one ⟨some 69,none,.call 81 false,[.t 68]⟩
 (DT.one ⟨some 74,none,.load none,[.t 73]⟩ (DT.one ⟨some 75,none,.len,[.t 74]⟩ (DT.one ⟨some 76,none,.build [i6 0,i6 0,.nl] [(0,1),(1,1)],[.t 72,.t 75]⟩ (DT.one ⟨some
 77,none,.bslc 5 3 1 64 [i6 0,i6 0,.nl] [(0,3)],[.t 76]⟩ (DT.one ⟨some 78,none,.app 6 3 64 40,[.t 69,.t 77]⟩ (DT.one ⟨some 79,none,.len,[.t 78]⟩ DT.nil))))))).two
 (DT.one ⟨some 74,none,.load none,[.t 73]⟩ ((DT.one ⟨some 69,none,.call 81 false,[.t 68]⟩ (DT.one ⟨some 75,none,.len,[.t 74]⟩ (DT.one ⟨some 76,none,.build [i6 0,i6 0,
 .nl] [(0,1),(1,1)],[.t 72,.t 75]⟩ (DT.one ⟨some 77,none,.bslc 5 3 1 64 [i6 0,i6 0,.nl] [(0,3)],[.t 76]⟩ (DT.one ⟨some 78,none,.app 6 3 64 40,[.t 69,.t 77]⟩ (DT.one
 ⟨some 79,none,.len,[.t 78]⟩ DT.nil)))))).two (DT.one ⟨some 75,none,.len,[.t 74]⟩ (DT.one ⟨some 76,none,.build [i6 0,i6 0,.nl] [(0,1),(1,1)],[.t 72,.t 75]⟩ ((DT.one
 ⟨some 69,none,.call 81 false,[.t 68]⟩ (DT.one ⟨some 77,none,.bslc 5 3 1 64 [i6 0,i6 0,.nl] [(0,3)],[.t 76]⟩ (DT.one ⟨some 78,none,.app 6 3 64 40,[.t 69,.t 77]⟩ (DT.one
 ⟨some 79,none,.len,[.t 78]⟩ DT.nil)))).two (DT.one ⟨some 77,none,.bslc 5 3 1 64 [i6 0,i6 0,.nl] [(0,3)],[.t 76]⟩ (DT.one ⟨some 69,none,.call 81 false,[.t 68]⟩ (DT.one
 ⟨some 78,none,.app 6 3 64 40,[.t 69,.t 77]⟩ (DT.one ⟨some 79,none,.len,[.t 78]⟩ DT.nil))))))))))).two (DT.one ⟨some 74,none,.load none,[.t 73]⟩ ((DT.one ⟨some 69,none,
 .call 81 false,[.t 68]⟩ (DT.one ⟨some 72,none,.len,[.t 71]⟩ (DT.one ⟨some 75,none,.len,[.t 74]⟩ (DT.one ⟨some 76,none,.build [i6 0,i6 0,.nl] [(0,1),(1,1)],[.t 72,.t
 75]⟩ (DT.one ⟨some 77,none,.bslc 5 3 1 64 [i6 0,i6 0,.nl] [(0,3)],[.t 76]⟩ (DT.one ⟨some 78,none,.app 6 3 64 40,[.t 69,.t 77]⟩ (DT.one ⟨some 79,none,.len,[.t 78]⟩
 DT.nil))))))).two ((DT.one ⟨some 72,none,.len,[.t 71]⟩ ((DT.one ⟨some 69,none,.call 81 false,[.t 68]⟩ (DT.one ⟨some 75,none,.len,[.t 74]⟩ (DT.one ⟨some 76,none,.build
 [i6 0,i6 0,.nl] [(0,1),(1,1)],[.t 72,.t 75]⟩ (DT.one ⟨some 77,none,.bslc 5 3 1 64 [i6 0,i6 0,.nl] [(0,3)],[.t 76]⟩ (DT.one ⟨some 78,none,.app 6 3 64 40,[.t 69,.t
 77]⟩ (DT.one ⟨some 79,none,.len,[.t 78]⟩ DT.nil)))))).two (DT.one ⟨some 75,none,.len,[.t 74]⟩ (DT.one ⟨some 76,none,.build [i6 0,i6 0,.nl] [(0,1),(1,1)],[.t 72,.t
 75]⟩ ((DT.one ⟨some 69,none,.call 81 false,[.t 68]⟩ (DT.one ⟨some 77,none,.bslc 5 3 1 64 [i6 0,i6 0,.nl] [(0,3)],[.t 76]⟩ (DT.one ⟨some 78,none,.app 6 3 64 40,[.t 69,
 .t 77]⟩ (DT.one ⟨some 79,none,.len,[.t 78]⟩ DT.nil)))).two (DT.one ⟨some 77,none,.bslc 5 3 1 64 [i6 0,i6 0,.nl] [(0,3)],[.t 76]⟩ (DT.one ⟨some 69,none,.call 81 false,
 [.t 68]⟩ (DT.one ⟨some 78,none,.app 6 3 64 40,[.t 69,.t 77]⟩ (DT.one ⟨some 79,none,.len,[.t 78]⟩ DT.nil))))))))).two (DT.one ⟨some 75,none,.len,[.t 74]⟩ ((DT.one ⟨some
 69,none,.call 81 false,[.t 68]⟩ (DT.one ⟨some 72,none,.len,[.t 71]⟩ (DT.one ⟨some 76,none,.build [i6 0,i6 0,.nl] [(0,1),(1,1)],[.t 72,.t 75]⟩ (DT.one ⟨some 77,none,
 .bslc 5 3 1 64 [i6 0,i6 0,.nl] [(0,3)],[.t 76]⟩ (DT.one ⟨some 78,none,.app 6 3 64 40,[.t 69,.t 77]⟩ (DT.one ⟨some 79,none,.len,[.t 78]⟩ DT.nil)))))).two (DT.one ⟨some
 72,none,.len,[.t 71]⟩ (DT.one ⟨some 76,none,.build [i6 0,i6 0,.nl] [(0,1),(1,1)],[.t 72,.t 75]⟩ ((DT.one ⟨some 69,none,.call 81 false,[.t 68]⟩ (DT.one ⟨some 77,
 none,.bslc 5 3 1 64 [i6 0,i6 0,.nl] [(0,3)],[.t 76]⟩ (DT.one ⟨some 78,none,.app 6 3 64 40,[.t 69,.t 77]⟩ (DT.one ⟨some 79,none,.len,[.t 78]⟩ DT.nil)))).two (DT.one
 ⟨some 77,none,.bslc 5 3 1 64 [i6 0,i6 0,.nl] [(0,3)],[.t 76]⟩ (DT.one ⟨some 69,none,.call 81 false,[.t 68]⟩ (DT.one ⟨some 78,none,.app 6 3 64 40,[.t 69,.t 77]⟩ (DT.one
 ⟨some 79,none,.len,[.t 78]⟩ DT.nil)))))))))))))))))).two (DT.one ⟨some 73,none,.fldA 3,[.t 4]⟩ ((DT.one ⟨some 69,none,.call 81 false,[.t 68]⟩ (DT.one ⟨some 71,none,.load
 none,[.t 70]⟩ (DT.one ⟨some 72,none,.len,[.t 71]⟩ (DT.one ⟨some 74,none,.load none,[.t 73]⟩ (DT.one ⟨some 75,none,.len,[.t 74]⟩ (DT.one ⟨some 76,none,.build [i6 0,i6
 0,.nl] [(0,1),(1,1)],[.t 72,.t 75]⟩ (DT.one ⟨some 77,none,.bslc 5 3 1 64 [i6 0,i6 0,.nl] [(0,3)],[.t 76]⟩ (DT.one ⟨some 78,none,.app 6 3 64 40,[.t 69,.t 77]⟩
 (DT.one ⟨some 79,none,.len,[.t 78]⟩ DT.nil))))))))).two ((DT.one ⟨some 71,none,.load none,[.t 70]⟩ ((DT.one ⟨some 69,none,.call 81 false,[.t 68]⟩ (DT.one ⟨some 72,none,
 .len,[.t 71]⟩ (DT.one ⟨some 74,none,.load none,[.t 73]⟩ (DT.one ⟨some 75,none,.len,[.t 74]⟩ (DT.one ⟨some 76,none,.build [i6 0,i6 0,.nl] [(0,1),(1,1)],[.t 72,.t
 75]⟩ (DT.one ⟨some 77,none,.bslc 5 3 1 64 [i6 0,i6 0,.nl] [(0,3)],[.t 76]⟩ (DT.one ⟨some 78,none,.app 6 3 64 40,[.t 69,.t 77]⟩ (DT.one ⟨some 79,none,.len,[.t 78]⟩
 DT.nil)))))))).two ((DT.one ⟨some 72,none,.len,[.t 71]⟩ ((DT.one ⟨some 69,none,.call 81 false,[.t 68]⟩ (DT.one ⟨some 74,none,.load none,[.t 73]⟩ (DT.one ⟨some 75,none,
 .len,[.t 74]⟩ (DT.one ⟨some 76,none,.build [i6 0,i6 0,.nl] [(0,1),(1,1)],[.t 72,.t 75]⟩ (DT.one ⟨some 77,none,.bslc 5 3 1 64 [i6 0,i6 0,.nl] [(0,3)],[.t 76]⟩
 (DT.one ⟨some 78,none,.app 6 3 64 40,[.t 69,.t 77]⟩ (DT.one ⟨some 79,none,.len,[.t 78]⟩ DT.nil))))))).two (DT.one ⟨some 74,none,.load none,[.t 73]⟩ ((DT.one ⟨some 69,
 none,.call 81 false,[.t 68]⟩ (DT.one ⟨some 75,none,.len,[.t 74]⟩ (DT.one ⟨some 76,none,.build [i6 0,i6 0,.nl] [(0,1),(1,1)],[.t 72,.t 75]⟩ (DT.one ⟨some 77,none,
 .bslc 5 3 1 64 [i6 0,i6 0,.nl] [(0,3)],[.t 76]⟩ (DT.one ⟨some 78,none,.app 6 3 64 40,[.t 69,.t 77]⟩ (DT.one ⟨some 79,none,.len,[.t 78]⟩ DT.nil)))))).two (DT.one ⟨some
 75,none,.len,[.t 74]⟩ (DT.one ⟨some 76,none,.build [i6 0,i6 0,.nl] [(0,1),(1,1)],[.t 72,.t 75]⟩ ((DT.one ⟨some 69,none,.call 81 false,[.t 68]⟩ (DT.one ⟨some 77,
 none,.bslc 5 3 1 64 [i6 0,i6 0,.nl] [(0,3)],[.t 76]⟩ (DT.one ⟨some 78,none,.app 6 3 64 40,[.t 69,.t 77]⟩ (DT.one ⟨some 79,none,.len,[.t 78]⟩ DT.nil)))).two (DT.one
 ⟨some 77,none,.bslc 5 3 1 64 [i6 0,i6 0,.nl] [(0,3)],[.t 76]⟩ (DT.one ⟨some 69,none,.call 81 false,[.t 68]⟩ (DT.one ⟨some 78,none,.app 6 3 64 40,[.t 69,.t 77]⟩ (DT.one
 ⟨some 79,none,.len,[.t 78]⟩ DT.nil))))))))))).two (DT.one ⟨some 74,none,.load none,[.t 73]⟩ ((DT.one ⟨some 69,none,.call 81 false,[.t 68]⟩ (DT.one ⟨some 72,none,.len,
 [.t 71]⟩ (DT.one ⟨some 75,none,.len,[.t 74]⟩ (DT.one ⟨some 76,none,.build [i6 0,i6 0,.nl] [(0,1),(1,1)],[.t 72,.t 75]⟩ (DT.one ⟨some 77,none,.bslc 5 3 1 64 [i6 0,i6
 0,.nl] [(0,3)],[.t 76]⟩ (DT.one ⟨some 78,none,.app 6 3 64 40,[.t 69,.t 77]⟩ (DT.one ⟨some 79,none,.len,[.t 78]⟩ DT.nil))))))).two ((DT.one ⟨some 72,none,.len,[.t 71]⟩
 ((DT.one ⟨some 69,none,.call 81 false,[.t 68]⟩ (DT.one ⟨some 75,none,.len,[.t 74]⟩ (DT.one ⟨some 76,none,.build [i6 0,i6 0,.nl] [(0,1),(1,1)],[.t 72,.t 75]⟩ (DT.one
 ⟨some 77,none,.bslc 5 3 1 64 [i6 0,i6 0,.nl] [(0,3)],[.t 76]⟩ (DT.one ⟨some 78,none,.app 6 3 64 40,[.t 69,.t 77]⟩ (DT.one ⟨some 79,none,.len,[.t 78]⟩ DT.nil)))))).two
 (DT.one ⟨some 75,none,.len,[.t 74]⟩ (DT.one ⟨some 76,none,.build [i6 0,i6 0,.nl] [(0,1),(1,1)],[.t 72,.t 75]⟩ ((DT.one ⟨some 69,none,.call 81 false,[.t 68]⟩ (DT.one
 ⟨some 77,none,.bslc 5 3 1 64 [i6 0,i6 0,.nl] [(0,3)],[.t 76]⟩ (DT.one ⟨some 78,none,.app 6 3 64 40,[.t 69,.t 77]⟩ (DT.one ⟨some 79,none,.len,[.t 78]⟩ DT.nil)))).two
 (DT.one ⟨some 77,none,.bslc 5 3 1 64 [i6 0,i6 0,.nl] [(0,3)],[.t 76]⟩ (DT.one ⟨some 69,none,.call 81 false,[.t 68]⟩ (DT.one ⟨some 78,none,.app 6 3 64 40,[.t 69,.t 77]⟩
 (DT.one ⟨some 79,none,.len,[.t 78]⟩ DT.nil))))))))).two (DT.one ⟨some 75,none,.len,[.t 74]⟩ ((DT.one ⟨some 69,none,.call 81 false,[.t 68]⟩ (DT.one ⟨some 72,none,.len,
 [.t 71]⟩ (DT.one ⟨some 76,none,.build [i6 0,i6 0,.nl] [(0,1),(1,1)],[.t 72,.t 75]⟩ (DT.one ⟨some 77,none,.bslc 5 3 1 64 [i6 0,i6 0,.nl] [(0,3)],[.t 76]⟩ (DT.one
 ⟨some 78,none,.app 6 3 64 40,[.t 69,.t 77]⟩ (DT.one ⟨some 79,none,.len,[.t 78]⟩ DT.nil)))))).two (DT.one ⟨some 72,none,.len,[.t 71]⟩ (DT.one ⟨some 76,none,.build [i6 0,
 i6 0,.nl] [(0,1),(1,1)],[.t 72,.t 75]⟩ ((DT.one ⟨some 69,none,.call 81 false,[.t 68]⟩ (DT.one ⟨some 77,none,.bslc 5 3 1 64 [i6 0,i6 0,.nl] [(0,3)],[.t 76]⟩ (DT.one
 ⟨some 78,none,.app 6 3 64 40,[.t 69,.t 77]⟩ (DT.one ⟨some 79,none,.len,[.t 78]⟩ DT.nil)))).two (DT.one ⟨some 77,none,.bslc 5 3 1 64 [i6 0,i6 0,.nl] [(0,3)],[.t 76]⟩
 (DT.one ⟨some 69,none,.call 81 false,[.t 68]⟩ (DT.one ⟨some 78,none,.app 6 3 64 40,[.t 69,.t 77]⟩ (DT.one ⟨some 79,none,.len,[.t 78]⟩ DT.nil))))))))))))))).two (DT.one
 ⟨some 74,none,.load none,[.t 73]⟩ ((DT.one ⟨some 69,none,.call 81 false,[.t 68]⟩ (DT.one ⟨some 71,none,.load none,[.t 70]⟩ (DT.one ⟨some 72,none,.len,[.t 71]⟩ (DT.one
 ⟨some 75,none,.len,[.t 74]⟩ (DT.one ⟨some 76,none,.build [i6 0,i6 0,.nl] [(0,1),(1,1)],[.t 72,.t 75]⟩ (DT.one ⟨some 77,none,.bslc 5 3 1 64 [i6 0,i6 0,.nl] [(0,3)],
 [.t 76]⟩ (DT.one ⟨some 78,none,.app 6 3 64 40,[.t 69,.t 77]⟩ (DT.one ⟨some 79,none,.len,[.t 78]⟩ DT.nil)))))))).two ((DT.one ⟨some 71,none,.load none,[.t 70]⟩ ((DT.one
 ⟨some 69,none,.call 81 false,[.t 68]⟩ (DT.one ⟨some 72,none,.len,[.t 71]⟩ (DT.one ⟨some 75,none,.len,[.t 74]⟩ (DT.one ⟨some 76,none,.build [i6 0,i6 0,.nl] [(0,1),(1,
 1)],[.t 72,.t 75]⟩ (DT.one ⟨some 77,none,.bslc 5 3 1 64 [i6 0,i6 0,.nl] [(0,3)],[.t 76]⟩ (DT.one ⟨some 78,none,.app 6 3 64 40,[.t 69,.t 77]⟩ (DT.one ⟨some 79,none,
 .len,[.t 78]⟩ DT.nil))))))).two ((DT.one ⟨some 72,none,.len,[.t 71]⟩ ((DT.one ⟨some 69,none,.call 81 false,[.t 68]⟩ (DT.one ⟨some 75,none,.len,[.t 74]⟩ (DT.one ⟨some 76,
 none,.build [i6 0,i6 0,.nl] [(0,1),(1,1)],[.t 72,.t 75]⟩ (DT.one ⟨some 77,none,.bslc 5 3 1 64 [i6 0,i6 0,.nl] [(0,3)],[.t 76]⟩ (DT.one ⟨some 78,none,.app 6 3 64 40,
 [.t 69,.t 77]⟩ (DT.one ⟨some 79,none,.len,[.t 78]⟩ DT.nil)))))).two (DT.one ⟨some 75,none,.len,[.t 74]⟩ (DT.one ⟨some 76,none,.build [i6 0,i6 0,.nl] [(0,1),(1,1)],
 [.t 72,.t 75]⟩ ((DT.one ⟨some 69,none,.call 81 false,[.t 68]⟩ (DT.one ⟨some 77,none,.bslc 5 3 1 64 [i6 0,i6 0,.nl] [(0,3)],[.t 76]⟩ (DT.one ⟨some 78,none,.app 6 3 64
 40,[.t 69,.t 77]⟩ (DT.one ⟨some 79,none,.len,[.t 78]⟩ DT.nil)))).two (DT.one ⟨some 77,none,.bslc 5 3 1 64 [i6 0,i6 0,.nl] [(0,3)],[.t 76]⟩ (DT.one ⟨some 69,none,.call
 81 false,[.t 68]⟩ (DT.one ⟨some 78,none,.app 6 3 64 40,[.t 69,.t 77]⟩ (DT.one ⟨some 79,none,.len,[.t 78]⟩ DT.nil))))))))).two (DT.one ⟨some 75,none,.len,[.t 74]⟩
 ((DT.one ⟨some 69,none,.call 81 false,[.t 68]⟩ (DT.one ⟨some 72,none,.len,[.t 71]⟩ (DT.one ⟨some 76,none,.build [i6 0,i6 0,.nl] [(0,1),(1,1)],[.t 72,.t 75]⟩ (DT.one
 ⟨some 77,none,.bslc 5 3 1 64 [i6 0,i6 0,.nl] [(0,3)],[.t 76]⟩ (DT.one ⟨some 78,none,.app 6 3 64 40,[.t 69,.t 77]⟩ (DT.one ⟨some 79,none,.len,[.t 78]⟩ DT.nil)))))).two
 (DT.one ⟨some 72,none,.len,[.t 71]⟩ (DT.one ⟨some 76,none,.build [i6 0,i6 0,.nl] [(0,1),(1,1)],[.t 72,.t 75]⟩ ((DT.one ⟨some 69,none,.call 81 false,[.t 68]⟩ (DT.one
 ⟨some 77,none,.bslc 5 3 1 64 [i6 0,i6 0,.nl] [(0,3)],[.t 76]⟩ (DT.one ⟨some 78,none,.app 6 3 64 40,[.t 69,.t 77]⟩ (DT.one ⟨some 79,none,.len,[.t 78]⟩ DT.nil)))).two
 (DT.one ⟨some 77,none,.bslc 5 3 1 64 [i6 0,i6 0,.nl] [(0,3)],[.t 76]⟩ (DT.one ⟨some 69,none,.call 81 false,[.t 68]⟩ (DT.one ⟨some 78,none,.app 6 3 64 40,[.t 69,.t 77]⟩
 (DT.one ⟨some 79,none,.len,[.t 78]⟩ DT.nil)))))))))))).two (DT.one ⟨some 75,none,.len,[.t 74]⟩ ((DT.one ⟨some 69,none,.call 81 false,[.t 68]⟩ (DT.one ⟨some 71,none,.load
 none,[.t 70]⟩ (DT.one ⟨some 72,none,.len,[.t 71]⟩ (DT.one ⟨some 76,none,.build [i6 0,i6 0,.nl] [(0,1),(1,1)],[.t 72,.t 75]⟩ (DT.one ⟨some 77,none,.bslc 5 3 1 64 [i6
 0,i6 0,.nl] [(0,3)],[.t 76]⟩ (DT.one ⟨some 78,none,.app 6 3 64 40,[.t 69,.t 77]⟩ (DT.one ⟨some 79,none,.len,[.t 78]⟩ DT.nil))))))).two (DT.one ⟨some 71,none,.load
 none,[.t 70]⟩ ((DT.one ⟨some 69,none,.call 81 false,[.t 68]⟩ (DT.one ⟨some 72,none,.len,[.t 71]⟩ (DT.one ⟨some 76,none,.build [i6 0,i6 0,.nl] [(0,1),(1,1)],[.t 72,
 .t 75]⟩ (DT.one ⟨some 77,none,.bslc 5 3 1 64 [i6 0,i6 0,.nl] [(0,3)],[.t 76]⟩ (DT.one ⟨some 78,none,.app 6 3 64 40,[.t 69,.t 77]⟩ (DT.one ⟨some 79,none,.len,[.t 78]⟩
 DT.nil)))))).two (DT.one ⟨some 72,none,.len,[.t 71]⟩ (DT.one ⟨some 76,none,.build [i6 0,i6 0,.nl] [(0,1),(1,1)],[.t 72,.t 75]⟩ ((DT.one ⟨some 69,none,.call 81 false,
 [.t 68]⟩ (DT.one ⟨some 77,none,.bslc 5 3 1 64 [i6 0,i6 0,.nl] [(0,3)],[.t 76]⟩ (DT.one ⟨some 78,none,.app 6 3 64 40,[.t 69,.t 77]⟩ (DT.one ⟨some 79,none,.len,[.t 78]⟩
 DT.nil)))).two (DT.one ⟨some 77,none,.bslc 5 3 1 64 [i6 0,i6 0,.nl] [(0,3)],[.t 76]⟩ (DT.one ⟨some 69,none,.call 81 false,[.t 68]⟩ (DT.one ⟨some 78,none,.app 6 3 64 40,
 [.t 69,.t 77]⟩ (DT.one ⟨some 79,none,.len,[.t 78]⟩ DT.nil)))))))))))))))))))).two (DT.one ⟨some 73,none,.fldA 3,[.t 4]⟩ ((DT.one ⟨some 69,none,.call 81 false,[.t 68]⟩
 (DT.one ⟨some 70,none,.fldA 3,[.t 4]⟩ (DT.one ⟨some 71,none,.load none,[.t 70]⟩ (DT.one ⟨some 72,none,.len,[.t 71]⟩ (DT.one ⟨some 74,none,.load none,[.t 73]⟩ (DT.one
 ⟨some 75,none,.len,[.t 74]⟩ (DT.one ⟨some 76,none,.build [i6 0,i6 0,.nl] [(0,1),(1,1)],[.t 72,.t 75]⟩ (DT.one ⟨some 77,none,.bslc 5 3 1 64 [i6 0,i6 0,.nl] [(0,3)],
 [.t 76]⟩ (DT.one ⟨some 78,none,.app 6 3 64 40,[.t 69,.t 77]⟩ (DT.one ⟨some 79,none,.len,[.t 78]⟩ DT.nil)))))))))).two ((DT.one ⟨some 70,none,.fldA 3,[.t 4]⟩ ((DT.one
 ⟨some 69,none,.call 81 false,[.t 68]⟩ (DT.one ⟨some 71,none,.load none,[.t 70]⟩ (DT.one ⟨some 72,none,.len,[.t 71]⟩ (DT.one ⟨some 74,none,.load none,[.t 73]⟩ (DT.one
 ⟨some 75,none,.len,[.t 74]⟩ (DT.one ⟨some 76,none,.build [i6 0,i6 0,.nl] [(0,1),(1,1)],[.t 72,.t 75]⟩ (DT.one ⟨some 77,none,.bslc 5 3 1 64 [i6 0,i6 0,.nl] [(0,3)],
 [.t 76]⟩ (DT.one ⟨some 78,none,.app 6 3 64 40,[.t 69,.t 77]⟩ (DT.one ⟨some 79,none,.len,[.t 78]⟩ DT.nil))))))))).two ((DT.one ⟨some 71,none,.load none,[.t 70]⟩ ((DT.one
 ⟨some 69,none,.call 81 false,[.t 68]⟩ (DT.one ⟨some 72,none,.len,[.t 71]⟩ (DT.one ⟨some 74,none,.load none,[.t 73]⟩ (DT.one ⟨some 75,none,.len,[.t 74]⟩ (DT.one ⟨some
 76,none,.build [i6 0,i6 0,.nl] [(0,1),(1,1)],[.t 72,.t 75]⟩ (DT.one ⟨some 77,none,.bslc 5 3 1 64 [i6 0,i6 0,.nl] [(0,3)],[.t 76]⟩ (DT.one ⟨some 78,none,.app 6 3 64
 40,[.t 69,.t 77]⟩ (DT.one ⟨some 79,none,.len,[.t 78]⟩ DT.nil)))))))).two ((DT.one ⟨some 72,none,.len,[.t 71]⟩ ((DT.one ⟨some 69,none,.call 81 false,[.t 68]⟩ (DT.one
 ⟨some 74,none,.load none,[.t 73]⟩ (DT.one ⟨some 75,none,.len,[.t 74]⟩ (DT.one ⟨some 76,none,.build [i6 0,i6 0,.nl] [(0,1),(1,1)],[.t 72,.t 75]⟩ (DT.one ⟨some 77,
 none,.bslc 5 3 1 64 [i6 0,i6 0,.nl] [(0,3)],[.t 76]⟩ (DT.one ⟨some 78,none,.app 6 3 64 40,[.t 69,.t 77]⟩ (DT.one ⟨some 79,none,.len,[.t 78]⟩ DT.nil))))))).two (DT.one
 ⟨some 74,none,.load none,[.t 73]⟩ ((DT.one ⟨some 69,none,.call 81 false,[.t 68]⟩ (DT.one ⟨some 75,none,.len,[.t 74]⟩ (DT.one ⟨some 76,none,.build [i6 0,i6 0,.nl] [(0,
 1),(1,1)],[.t 72,.t 75]⟩ (DT.one ⟨some 77,none,.bslc 5 3 1 64 [i6 0,i6 0,.nl] [(0,3)],[.t 76]⟩ (DT.one ⟨some 78,none,.app 6 3 64 40,[.t 69,.t 77]⟩ (DT.one ⟨some 79,
 none,.len,[.t 78]⟩ DT.nil)))))).two (DT.one ⟨some 75,none,.len,[.t 74]⟩ (DT.one ⟨some 76,none,.build [i6 0,i6 0,.nl] [(0,1),(1,1)],[.t 72,.t 75]⟩ ((DT.one ⟨some 69,
 none,.call 81 false,[.t 68]⟩ (DT.one ⟨some 77,none,.bslc 5 3 1 64 [i6 0,i6 0,.nl] [(0,3)],[.t 76]⟩ (DT.one ⟨some 78,none,.app 6 3 64 40,[.t 69,.t 77]⟩ (DT.one ⟨some 79,
 none,.len,[.t 78]⟩ DT.nil)))).two (DT.one ⟨some 77,none,.bslc 5 3 1 64 [i6 0,i6 0,.nl] [(0,3)],[.t 76]⟩ (DT.one ⟨some 69,none,.call 81 false,[.t 68]⟩ (DT.one ⟨some 78,
 none,.app 6 3 64 40,[.t 69,.t 77]⟩ (DT.one ⟨some 79,none,.len,[.t 78]⟩ DT.nil))))))))))).two (DT.one ⟨some 74,none,.load none,[.t 73]⟩ ((DT.one ⟨some 69,none,.call 81
 false,[.t 68]⟩ (DT.one ⟨some 72,none,.len,[.t 71]⟩ (DT.one ⟨some 75,none,.len,[.t 74]⟩ (DT.one ⟨some 76,none,.build [i6 0,i6 0,.nl] [(0,1),(1,1)],[.t 72,.t 75]⟩
 (DT.one ⟨some 77,none,.bslc 5 3 1 64 [i6 0,i6 0,.nl] [(0,3)],[.t 76]⟩ (DT.one ⟨some 78,none,.app 6 3 64 40,[.t 69,.t 77]⟩ (DT.one ⟨some 79,none,.len,[.t 78]⟩
 DT.nil))))))).two ((DT.one ⟨some 72,none,.len,[.t 71]⟩ ((DT.one ⟨some 69,none,.call 81 false,[.t 68]⟩ (DT.one ⟨some 75,none,.len,[.t 74]⟩ (DT.one ⟨some 76,none,.build
 [i6 0,i6 0,.nl] [(0,1),(1,1)],[.t 72,.t 75]⟩ (DT.one ⟨some 77,none,.bslc 5 3 1 64 [i6 0,i6 0,.nl] [(0,3)],[.t 76]⟩ (DT.one ⟨some 78,none,.app 6 3 64 40,[.t 69,.t
 77]⟩ (DT.one ⟨some 79,none,.len,[.t 78]⟩ DT.nil)))))).two (DT.one ⟨some 75,none,.len,[.t 74]⟩ (DT.one ⟨some 76,none,.build [i6 0,i6 0,.nl] [(0,1),(1,1)],[.t 72,.t
 75]⟩ ((DT.one ⟨some 69,none,.call 81 false,[.t 68]⟩ (DT.one ⟨some 77,none,.bslc 5 3 1 64 [i6 0,i6 0,.nl] [(0,3)],[.t 76]⟩ (DT.one ⟨some 78,none,.app 6 3 64 40,[.t 69,
 .t 77]⟩ (DT.one ⟨some 79,none,.len,[.t 78]⟩ DT.nil)))).two (DT.one ⟨some 77,none,.bslc 5 3 1 64 [i6 0,i6 0,.nl] [(0,3)],[.t 76]⟩ (DT.one ⟨some 69,none,.call 81 false,
 [.t 68]⟩ (DT.one ⟨some 78,none,.app 6 3 64 40,[.t 69,.t 77]⟩ (DT.one ⟨some 79,none,.len,[.t 78]⟩ DT.nil))))))))).two (DT.one ⟨some 75,none,.len,[.t 74]⟩ ((DT.one ⟨some
 69,none,.call 81 false,[.t 68]⟩ (DT.one ⟨some 72,none,.len,[.t 71]⟩ (DT.one ⟨some 76,none,.build [i6 0,i6 0,.nl] [(0,1),(1,1)],[.t 72,.t 75]⟩ (DT.one ⟨some 77,none,
 .bslc 5 3 1 64 [i6 0,i6 0,.nl] [(0,3)],[.t 76]⟩ (DT.one ⟨some 78,none,.app 6 3 64 40,[.t 69,.t 77]⟩ (DT.one ⟨some 79,none,.len,[.t 78]⟩ DT.nil)))))).two (DT.one ⟨some
 72,none,.len,[.t 71]⟩ (DT.one ⟨some 76,none,.build [i6 0,i6 0,.nl] [(0,1),(1,1)],[.t 72,.t 75]⟩ ((DT.one ⟨some 69,none,.call 81 false,[.t 68]⟩ (DT.one ⟨some 77,
 none,.bslc 5 3 1 64 [i6 0,i6 0,.nl] [(0,3)],[.t 76]⟩ (DT.one ⟨some 78,none,.app 6 3 64 40,[.t 69,.t 77]⟩ (DT.one ⟨some 79,none,.len,[.t 78]⟩ DT.nil)))).two (DT.one
 ⟨some 77,none,.bslc 5 3 1 64 [i6 0,i6 0,.nl] [(0,3)],[.t 76]⟩ (DT.one ⟨some 69,none,.call 81 false,[.t 68]⟩ (DT.one ⟨some 78,none,.app 6 3 64 40,[.t 69,.t 77]⟩ (DT.one
 ⟨some 79,none,.len,[.t 78]⟩ DT.nil))))))))))))))).two (DT.one ⟨some 74,none,.load none,[.t 73]⟩ ((DT.one ⟨some 69,none,.call 81 false,[.t 68]⟩ (DT.one ⟨some 71,none,
 .load none,[.t 70]⟩ (DT.one ⟨some 72,none,.len,[.t 71]⟩ (DT.one ⟨some 75,none,.len,[.t 74]⟩ (DT.one ⟨some 76,none,.build [i6 0,i6 0,.nl] [(0,1),(1,1)],[.t 72,.t
 75]⟩ (DT.one ⟨some 77,none,.bslc 5 3 1 64 [i6 0,i6 0,.nl] [(0,3)],[.t 76]⟩ (DT.one ⟨some 78,none,.app 6 3 64 40,[.t 69,.t 77]⟩ (DT.one ⟨some 79,none,.len,[.t 78]⟩
 DT.nil)))))))).two ((DT.one ⟨some 71,none,.load none,[.t 70]⟩ ((DT.one ⟨some 69,none,.call 81 false,[.t 68]⟩ (DT.one ⟨some 72,none,.len,[.t 71]⟩ (DT.one ⟨some 75,none,
 .len,[.t 74]⟩ (DT.one ⟨some 76,none,.build [i6 0,i6 0,.nl] [(0,1),(1,1)],[.t 72,.t 75]⟩ (DT.one ⟨some 77,none,.bslc 5 3 1 64 [i6 0,i6 0,.nl] [(0,3)],[.t 76]⟩
 (DT.one ⟨some 78,none,.app 6 3 64 40,[.t 69,.t 77]⟩ (DT.one ⟨some 79,none,.len,[.t 78]⟩ DT.nil))))))).two ((DT.one ⟨some 72,none,.len,[.t 71]⟩ ((DT.one ⟨some 69,none,
 .call 81 false,[.t 68]⟩ (DT.one ⟨some 75,none,.len,[.t 74]⟩ (DT.one ⟨some 76,none,.build [i6 0,i6 0,.nl] [(0,1),(1,1)],[.t 72,.t 75]⟩ (DT.one ⟨some 77,none,.bslc 5 3
 1 64 [i6 0,i6 0,.nl] [(0,3)],[.t 76]⟩ (DT.one ⟨some 78,none,.app 6 3 64 40,[.t 69,.t 77]⟩ (DT.one ⟨some 79,none,.len,[.t 78]⟩ DT.nil)))))).two (DT.one ⟨some 75,none,
 .len,[.t 74]⟩ (DT.one ⟨some 76,none,.build [i6 0,i6 0,.nl] [(0,1),(1,1)],[.t 72,.t 75]⟩ ((DT.one ⟨some 69,none,.call 81 false,[.t 68]⟩ (DT.one ⟨some 77,none,.bslc 5
 3 1 64 [i6 0,i6 0,.nl] [(0,3)],[.t 76]⟩ (DT.one ⟨some 78,none,.app 6 3 64 40,[.t 69,.t 77]⟩ (DT.one ⟨some 79,none,.len,[.t 78]⟩ DT.nil)))).two (DT.one ⟨some 77,none,
 .bslc 5 3 1 64 [i6 0,i6 0,.nl] [(0,3)],[.t 76]⟩ (DT.one ⟨some 69,none,.call 81 false,[.t 68]⟩ (DT.one ⟨some 78,none,.app 6 3 64 40,[.t 69,.t 77]⟩ (DT.one ⟨some 79,none,
 .len,[.t 78]⟩ DT.nil))))))))).two (DT.one ⟨some 75,none,.len,[.t 74]⟩ ((DT.one ⟨some 69,none,.call 81 false,[.t 68]⟩ (DT.one ⟨some 72,none,.len,[.t 71]⟩ (DT.one ⟨some 76,
 none,.build [i6 0,i6 0,.nl] [(0,1),(1,1)],[.t 72,.t 75]⟩ (DT.one ⟨some 77,none,.bslc 5 3 1 64 [i6 0,i6 0,.nl] [(0,3)],[.t 76]⟩ (DT.one ⟨some 78,none,.app 6 3 64 40,
 [.t 69,.t 77]⟩ (DT.one ⟨some 79,none,.len,[.t 78]⟩ DT.nil)))))).two (DT.one ⟨some 72,none,.len,[.t 71]⟩ (DT.one ⟨some 76,none,.build [i6 0,i6 0,.nl] [(0,1),(1,1)],
 [.t 72,.t 75]⟩ ((DT.one ⟨some 69,none,.call 81 false,[.t 68]⟩ (DT.one ⟨some 77,none,.bslc 5 3 1 64 [i6 0,i6 0,.nl] [(0,3)],[.t 76]⟩ (DT.one ⟨some 78,none,.app 6 3 64
 40,[.t 69,.t 77]⟩ (DT.one ⟨some 79,none,.len,[.t 78]⟩ DT.nil)))).two (DT.one ⟨some 77,none,.bslc 5 3 1 64 [i6 0,i6 0,.nl] [(0,3)],[.t 76]⟩ (DT.one ⟨some 69,none,.call
 81 false,[.t 68]⟩ (DT.one ⟨some 78,none,.app 6 3 64 40,[.t 69,.t 77]⟩ (DT.one ⟨some 79,none,.len,[.t 78]⟩ DT.nil)))))))))))).two (DT.one ⟨some 75,none,.len,[.t 74]⟩
 ((DT.one ⟨some 69,none,.call 81 false,[.t 68]⟩ (DT.one ⟨some 71,none,.load none,[.t 70]⟩ (DT.one ⟨some 72,none,.len,[.t 71]⟩ (DT.one ⟨some 76,none,.build [i6 0,i6 0,
 .nl] [(0,1),(1,1)],[.t 72,.t 75]⟩ (DT.one ⟨some 77,none,.bslc 5 3 1 64 [i6 0,i6 0,.nl] [(0,3)],[.t 76]⟩ (DT.one ⟨some 78,none,.app 6 3 64 40,[.t 69,.t 77]⟩ (DT.one
 ⟨some 79,none,.len,[.t 78]⟩ DT.nil))))))).two (DT.one ⟨some 71,none,.load none,[.t 70]⟩ ((DT.one ⟨some 69,none,.call 81 false,[.t 68]⟩ (DT.one ⟨some 72,none,.len,[.t
 71]⟩ (DT.one ⟨some 76,none,.build [i6 0,i6 0,.nl] [(0,1),(1,1)],[.t 72,.t 75]⟩ (DT.one ⟨some 77,none,.bslc 5 3 1 64 [i6 0,i6 0,.nl] [(0,3)],[.t 76]⟩ (DT.one ⟨some
 78,none,.app 6 3 64 40,[.t 69,.t 77]⟩ (DT.one ⟨some 79,none,.len,[.t 78]⟩ DT.nil)))))).two (DT.one ⟨some 72,none,.len,[.t 71]⟩ (DT.one ⟨some 76,none,.build [i6 0,i6 0,
 .nl] [(0,1),(1,1)],[.t 72,.t 75]⟩ ((DT.one ⟨some 69,none,.call 81 false,[.t 68]⟩ (DT.one ⟨some 77,none,.bslc 5 3 1 64 [i6 0,i6 0,.nl] [(0,3)],[.t 76]⟩ (DT.one ⟨some
 78,none,.app 6 3 64 40,[.t 69,.t 77]⟩ (DT.one ⟨some 79,none,.len,[.t 78]⟩ DT.nil)))).two (DT.one ⟨some 77,none,.bslc 5 3 1 64 [i6 0,i6 0,.nl] [(0,3)],[.t 76]⟩ (DT.one
 ⟨some 69,none,.call 81 false,[.t 68]⟩ (DT.one ⟨some 78,none,.app 6 3 64 40,[.t 69,.t 77]⟩ (DT.one ⟨some 79,none,.len,[.t 78]⟩ DT.nil))))))))))))))))).two (DT.one ⟨some
 74,none,.load none,[.t 73]⟩ ((DT.one ⟨some 69,none,.call 81 false,[.t 68]⟩ (DT.one ⟨some 70,none,.fldA 3,[.t 4]⟩ (DT.one ⟨some 71,none,.load none,[.t 70]⟩ (DT.one ⟨some
 72,none,.len,[.t 71]⟩ (DT.one ⟨some 75,none,.len,[.t 74]⟩ (DT.one ⟨some 76,none,.build [i6 0,i6 0,.nl] [(0,1),(1,1)],[.t 72,.t 75]⟩ (DT.one ⟨some 77,none,.bslc 5 3
 1 64 [i6 0,i6 0,.nl] [(0,3)],[.t 76]⟩ (DT.one ⟨some 78,none,.app 6 3 64 40,[.t 69,.t 77]⟩ (DT.one ⟨some 79,none,.len,[.t 78]⟩ DT.nil))))))))).two ((DT.one ⟨some 70,
 none,.fldA 3,[.t 4]⟩ ((DT.one ⟨some 69,none,.call 81 false,[.t 68]⟩ (DT.one ⟨some 71,none,.load none,[.t 70]⟩ (DT.one ⟨some 72,none,.len,[.t 71]⟩ (DT.one ⟨some 75,none,
 .len,[.t 74]⟩ (DT.one ⟨some 76,none,.build [i6 0,i6 0,.nl] [(0,1),(1,1)],[.t 72,.t 75]⟩ (DT.one ⟨some 77,none,.bslc 5 3 1 64 [i6 0,i6 0,.nl] [(0,3)],[.t 76]⟩
 (DT.one ⟨some 78,none,.app 6 3 64 40,[.t 69,.t 77]⟩ (DT.one ⟨some 79,none,.len,[.t 78]⟩ DT.nil)))))))).two ((DT.one ⟨some 71,none,.load none,[.t 70]⟩ ((DT.one ⟨some 69,
 none,.call 81 false,[.t 68]⟩ (DT.one ⟨some 72,none,.len,[.t 71]⟩ (DT.one ⟨some 75,none,.len,[.t 74]⟩ (DT.one ⟨some 76,none,.build [i6 0,i6 0,.nl] [(0,1),(1,1)],[.t
 72,.t 75]⟩ (DT.one ⟨some 77,none,.bslc 5 3 1 64 [i6 0,i6 0,.nl] [(0,3)],[.t 76]⟩ (DT.one ⟨some 78,none,.app 6 3 64 40,[.t 69,.t 77]⟩ (DT.one ⟨some 79,none,.len,[.t
 78]⟩ DT.nil))))))).two ((DT.one ⟨some 72,none,.len,[.t 71]⟩ ((DT.one ⟨some 69,none,.call 81 false,[.t 68]⟩ (DT.one ⟨some 75,none,.len,[.t 74]⟩ (DT.one ⟨some 76,none,
 .build [i6 0,i6 0,.nl] [(0,1),(1,1)],[.t 72,.t 75]⟩ (DT.one ⟨some 77,none,.bslc 5 3 1 64 [i6 0,i6 0,.nl] [(0,3)],[.t 76]⟩ (DT.one ⟨some 78,none,.app 6 3 64 40,[.t
 69,.t 77]⟩ (DT.one ⟨some 79,none,.len,[.t 78]⟩ DT.nil)))))).two (DT.one ⟨some 75,none,.len,[.t 74]⟩ (DT.one ⟨some 76,none,.build [i6 0,i6 0,.nl] [(0,1),(1,1)],[.t
 72,.t 75]⟩ ((DT.one ⟨some 69,none,.call 81 false,[.t 68]⟩ (DT.one ⟨some 77,none,.bslc 5 3 1 64 [i6 0,i6 0,.nl] [(0,3)],[.t 76]⟩ (DT.one ⟨some 78,none,.app 6 3 64 40,
 [.t 69,.t 77]⟩ (DT.one ⟨some 79,none,.len,[.t 78]⟩ DT.nil)))).two (DT.one ⟨some 77,none,.bslc 5 3 1 64 [i6 0,i6 0,.nl] [(0,3)],[.t 76]⟩ (DT.one ⟨some 69,none,.call 81
 false,[.t 68]⟩ (DT.one ⟨some 78,none,.app 6 3 64 40,[.t 69,.t 77]⟩ (DT.one ⟨some 79,none,.len,[.t 78]⟩ DT.nil))))))))).two (DT.one ⟨some 75,none,.len,[.t 74]⟩ ((DT.one
 ⟨some 69,none,.call 81 false,[.t 68]⟩ (DT.one ⟨some 72,none,.len,[.t 71]⟩ (DT.one ⟨some 76,none,.build [i6 0,i6 0,.nl] [(0,1),(1,1)],[.t 72,.t 75]⟩ (DT.one ⟨some 77,
 none,.bslc 5 3 1 64 [i6 0,i6 0,.nl] [(0,3)],[.t 76]⟩ (DT.one ⟨some 78,none,.app 6 3 64 40,[.t 69,.t 77]⟩ (DT.one ⟨some 79,none,.len,[.t 78]⟩ DT.nil)))))).two (DT.one
 ⟨some 72,none,.len,[.t 71]⟩ (DT.one ⟨some 76,none,.build [i6 0,i6 0,.nl] [(0,1),(1,1)],[.t 72,.t 75]⟩ ((DT.one ⟨some 69,none,.call 81 false,[.t 68]⟩ (DT.one ⟨some
 77,none,.bslc 5 3 1 64 [i6 0,i6 0,.nl] [(0,3)],[.t 76]⟩ (DT.one ⟨some 78,none,.app 6 3 64 40,[.t 69,.t 77]⟩ (DT.one ⟨some 79,none,.len,[.t 78]⟩ DT.nil)))).two (DT.one
 ⟨some 77,none,.bslc 5 3 1 64 [i6 0,i6 0,.nl] [(0,3)],[.t 76]⟩ (DT.one ⟨some 69,none,.call 81 false,[.t 68]⟩ (DT.one ⟨some 78,none,.app 6 3 64 40,[.t 69,.t 77]⟩ (DT.one
 ⟨some 79,none,.len,[.t 78]⟩ DT.nil)))))))))))).two (DT.one ⟨some 75,none,.len,[.t 74]⟩ ((DT.one ⟨some 69,none,.call 81 false,[.t 68]⟩ (DT.one ⟨some 71,none,.load none,
 [.t 70]⟩ (DT.one ⟨some 72,none,.len,[.t 71]⟩ (DT.one ⟨some 76,none,.build [i6 0,i6 0,.nl] [(0,1),(1,1)],[.t 72,.t 75]⟩ (DT.one ⟨some 77,none,.bslc 5 3 1 64 [i6 0,i6
 0,.nl] [(0,3)],[.t 76]⟩ (DT.one ⟨some 78,none,.app 6 3 64 40,[.t 69,.t 77]⟩ (DT.one ⟨some 79,none,.len,[.t 78]⟩ DT.nil))))))).two (DT.one ⟨some 71,none,.load none,[.t
 70]⟩ ((DT.one ⟨some 69,none,.call 81 false,[.t 68]⟩ (DT.one ⟨some 72,none,.len,[.t 71]⟩ (DT.one ⟨some 76,none,.build [i6 0,i6 0,.nl] [(0,1),(1,1)],[.t 72,.t 75]⟩
 (DT.one ⟨some 77,none,.bslc 5 3 1 64 [i6 0,i6 0,.nl] [(0,3)],[.t 76]⟩ (DT.one ⟨some 78,none,.app 6 3 64 40,[.t 69,.t 77]⟩ (DT.one ⟨some 79,none,.len,[.t 78]⟩
 DT.nil)))))).two (DT.one ⟨some 72,none,.len,[.t 71]⟩ (DT.one ⟨some 76,none,.build [i6 0,i6 0,.nl] [(0,1),(1,1)],[.t 72,.t 75]⟩ ((DT.one ⟨some 69,none,.call 81 false,
 [.t 68]⟩ (DT.one ⟨some 77,none,.bslc 5 3 1 64 [i6 0,i6 0,.nl] [(0,3)],[.t 76]⟩ (DT.one ⟨some 78,none,.app 6 3 64 40,[.t 69,.t 77]⟩ (DT.one ⟨some 79,none,.len,[.t 78]⟩
 DT.nil)))).two (DT.one ⟨some 77,none,.bslc 5 3 1 64 [i6 0,i6 0,.nl] [(0,3)],[.t 76]⟩ (DT.one ⟨some 69,none,.call 81 false,[.t 68]⟩ (DT.one ⟨some 78,none,.app 6 3 64 40,
 [.t 69,.t 77]⟩ (DT.one ⟨some 79,none,.len,[.t 78]⟩ DT.nil)))))))))))))).two (DT.one ⟨some 75,none,.len,[.t 74]⟩ ((DT.one ⟨some 69,none,.call 81 false,[.t 68]⟩ (DT.one
 ⟨some 70,none,.fldA 3,[.t 4]⟩ (DT.one ⟨some 71,none,.load none,[.t 70]⟩ (DT.one ⟨some 72,none,.len,[.t 71]⟩ (DT.one ⟨some 76,none,.build [i6 0,i6 0,.nl] [(0,1),(1,
 1)],[.t 72,.t 75]⟩ (DT.one ⟨some 77,none,.bslc 5 3 1 64 [i6 0,i6 0,.nl] [(0,3)],[.t 76]⟩ (DT.one ⟨some 78,none,.app 6 3 64 40,[.t 69,.t 77]⟩ (DT.one ⟨some 79,none,
 .len,[.t 78]⟩ DT.nil)))))))).two (DT.one ⟨some 70,none,.fldA 3,[.t 4]⟩ ((DT.one ⟨some 69,none,.call 81 false,[.t 68]⟩ (DT.one ⟨some 71,none,.load none,[.t 70]⟩ (DT.one
 ⟨some 72,none,.len,[.t 71]⟩ (DT.one ⟨some 76,none,.build [i6 0,i6 0,.nl] [(0,1),(1,1)],[.t 72,.t 75]⟩ (DT.one ⟨some 77,none,.bslc 5 3 1 64 [i6 0,i6 0,.nl] [(0,3)],
 [.t 76]⟩ (DT.one ⟨some 78,none,.app 6 3 64 40,[.t 69,.t 77]⟩ (DT.one ⟨some 79,none,.len,[.t 78]⟩ DT.nil))))))).two (DT.one ⟨some 71,none,.load none,[.t 70]⟩ ((DT.one
 ⟨some 69,none,.call 81 false,[.t 68]⟩ (DT.one ⟨some 72,none,.len,[.t 71]⟩ (DT.one ⟨some 76,none,.build [i6 0,i6 0,.nl] [(0,1),(1,1)],[.t 72,.t 75]⟩ (DT.one ⟨some 77,
 none,.bslc 5 3 1 64 [i6 0,i6 0,.nl] [(0,3)],[.t 76]⟩ (DT.one ⟨some 78,none,.app 6 3 64 40,[.t 69,.t 77]⟩ (DT.one ⟨some 79,none,.len,[.t 78]⟩ DT.nil)))))).two (DT.one
 ⟨some 72,none,.len,[.t 71]⟩ (DT.one ⟨some 76,none,.build [i6 0,i6 0,.nl] [(0,1),(1,1)],[.t 72,.t 75]⟩ ((DT.one ⟨some 69,none,.call 81 false,[.t 68]⟩ (DT.one ⟨some
 77,none,.bslc 5 3 1 64 [i6 0,i6 0,.nl] [(0,3)],[.t 76]⟩ (DT.one ⟨some 78,none,.app 6 3 64 40,[.t 69,.t 77]⟩ (DT.one ⟨some 79,none,.len,[.t 78]⟩ DT.nil)))).two (DT.one
 ⟨some 77,none,.bslc 5 3 1 64 [i6 0,i6 0,.nl] [(0,3)],[.t 76]⟩ (DT.one ⟨some 69,none,.call 81 false,[.t 68]⟩ (DT.one ⟨some 78,none,.app 6 3 64 40,[.t 69,.t 77]⟩ (DT.one
 ⟨some 79,none,.len,[.t 78]⟩ DT.nil)))))))))))))))))))))))).seq (C.block 2 ((C.ops [BI 81 .lss 80 79]).seq ((C.cond (.t 81) C.skip (C.exit 2)).seq ((C.block 3 ((C.ops [MV 82 80,
 O2 83 (.idxA 3) 78 80,O1 84 (.load (some 3)) 83,⟨some 19,none,.alloc 7 3 [i6 0],[]⟩,⟨some 20,none,.alloc 8 64 [i6 0,i6 0,.nl],[]⟩,ST 1 19 82,ST 3 20 84]).seq (((C.ops
 [O1 85 (.load (some 4)) 4,MV 86 18,O1 87 (.fldA 0) 20,LD 88 87,MV 89 3,ON 90 (.call 82 true) [.t 85,.t 86,.t 88,.t 89]]).seq (C.block 4 (C.range (.t 90) [91] (C.ops [⟨some
 21,none,.alloc 9 115 [.str [],.str [],.str [],i6 0,i6 0,.str [],i6 0],[]⟩,ST 7 21 91]) (C.block 5 (C.ops [LD 92 17,O1 93 (.load (some 7)) 21,ON 94 .callv [.t 92,.t 93,
 .c (i6 (-1)),.c (i6 (-1))]]))))).seq ((C.ops [O1 95 (.fldA 1) 20,LD 96 95,MV 18 96]).seq (C.block 6 ((C.ops [LD 127 19,MV 128 1,O1 129 .len 128,BI 130 .eql 127 129,MV 126
 130]).seq (C.cond (.t 126) C.skip ((C.ops [MV 132 13,LD 133 19,O2 134 (.idxA 1) 132 133,LD 135 134,BC 136 .lss 135 (i6 0),MV 131 136]).seq (C.cond (.t 131) ((C.ops [O1 137
 (.load (some 4)) 4,O1 138 (.fldA 0) 20,LD 139 138,O1 140 (.fldA 1) 20,LD 141 140,MV 142 3,ON 143 (.call 82 true) [.t 137,.t 139,.t 141,.t 142]]).seq (C.block 9 (C.range
 (.t 143) [144] (C.ops [⟨some 22,none,.alloc 10 115 [.str [],.str [],.str [],i6 0,i6 0,.str [],i6 0],[]⟩,ST 7 22 144]) (C.block 10 (C.ops [LD 145 17,O1 146 (.load (some
 7)) 22,LD 147 19,ON 148 .callv [.t 145,.t 146,.t 147,.c (i6 (-1))]]))))) ((C.ops [MV 97 2,MV 98 13,LD 99 19,O2 100 (.idxA 1) 98 99,LD 101 100,O2 102 (.idxA 4) 97 101,O1
 103 (.load (some 4)) 102,⟨some 23,none,.alloc 11 43 [i6 0,.str [],i6 0,.str []],[]⟩,ST 4 23 103]).seq ((C.draw (DT.uni ⟨some 104,none,.call 83 true,[]⟩ (DT.one ⟨some
 105,none,.fldA 0,[.t 23]⟩ (DT.one ⟨some 106,none,.load none,[.t 105]⟩ (DT.one ⟨some 107,none,.aidx 4 1 none,[.t 104,.t 106]⟩ (DT.one ⟨some 108,none,.load (some 4),[.t
 4]⟩ (DT.one ⟨some 109,none,.load (some 3),[.t 20]⟩ (DT.one ⟨some 110,none,.load (some 4),[.t 23]⟩ (DT.uni ⟨some 111,none,.callv,[.t 107,.t 108,.t 109,.t 110]⟩ (DT.one
 ⟨some 112,none,.len,[.t 111]⟩ (DT.one ⟨some 113,none,.mv,[.c (i6 0)]⟩ DT.nil))))))))))).seq (C.block 7 ((C.ops [BI 114 .lss 113 112]).seq ((C.cond (.t 114) C.skip (C.exit
 7)).seq ((C.block 8 ((C.ops [O2 115 (.idxA 7) 111 113,O1 116 (.load (some 7)) 115,⟨some 25,none,.alloc 12 115 [.str [],.str [],.str [],i6 0,i6 0,.str [],i6 0],[]⟩,ST 7
 25 116]).seq (C.ops [LD 117 17,O1 118 (.load (some 7)) 25,LD 119 19,MV 120 13,LD 121 19,O2 122 (.idxA 1) 120 121,LD 123 122,ON 124 .callv [.t 117,.t 118,.t 119,.t
 123]]))).seq (C.ops [BC 125 .add 113 (i6 1),MV 113 125])))).loop)))))))))))).seq (C.ops [BC 149 .add 80 (i6 1),MV 80 149])))).loop)).seq (((C.ops [LD 150 16,O1 151 .len 150,BC
 152 .gtr 151 (i6 1024)]).seq (C.cond (.t 152) ((C.ops [ON 8 (.nilo 1 7 36) [],MC 9 (i6 4)]).seq C.ret) C.skip)).seq ((C.ops [LD 153 16,MV 8 153,MC 9 (i6 0)]).seq
 C.ret)))))))))))))
theorem qa1:qL Tryz.prog 25 154 16 [RV.tmp 8,RV.tmp 9] qfZ:=fi Tryz.f25 [4,8,51,16,17,77,78,19,20,21,22,23,25,54,69,10] qpZ [16]
end
section
open Go Go.Proofs AF HY LN
namespace RC
def qbs(x:Co)(l:List Un)(d:List Dc)(n:Nat):List Int:=(List.range l.length).map fun k=>qcu x l d k n
theorem qhp(x:Co)(l:List Un)(d:List Dc)(n:Nat):(qbs x l d n).length=l.length:=by unfold qbs;simp
theorem qur{x:Co}{l:List Un}{d:List Dc}{n k:Nat}(hk:k<l.length):(qbs x l d n).getD k 0=qcu x l d k n:=by
 unfold qbs;rw[gdqA,List.getElem?_map,List.getElem?_range hk];rfl
theorem qzO(x:Co)(l:List Un)(d:List Dc):qbs x l d 0=List.replicate l.length (-1):=by
 unfold qbs;refine List.ext_getElem (by simp) (fun i h1 h2=> ?_);simp[qcu]
theorem qmb{x:Co}{l:List Un}{d:List Dc}{n k:Nat}(hk:k<l.length)(he:qaq x l (d.getD n default)=k):qbs x l d (n+1)=(qbs x l d n).set k (n:Int):=by
 unfold qbs;refine List.ext_getElem (by simp) (fun i h1 h2=> ?_);rw[List.getElem_set];simp only[List.getElem_map,List.getElem_range]
 by_cases g:k=i
 ·subst g;rw[ipo rfl];unfold qcu;rw[ipo he]
 ·rw[ine g]
  conv=>lhs;unfold qcu
  rw[ine (by rw[he];omega)]
theorem qz0{x:Co}{l:List Un}{d:List Dc}{i:Nat}(hi:i<d.length):(plG x l d d.length).getD i 0=qaq x l (d.getD i default):=by
 unfold plG;rw[List.take_length,gdqA,List.getElem?_map,zH hi,gdqA,zH hi];rfl
structure EsS where
 k:Nat
 vb:Nat
 O7:AObj
 O8:AObj
 O9:AObj
 O10:AObj
 O11:AObj
 O12:AObj
def rwK(x:Co)(l:List Un)(d:List Dc)(s k:Nat):List Rw:=if k≤l.length then rwL x l d s k else rwA x l d s
def nxT(x:Co)(l:List Un)(k:Nat):Nat:=if k≤l.length then jf l k else x.col.length
theorem qeC{v n:Nat}{L:List Wd}{ty:TypeId}{fz:Nat→Bool}{h:List AObj}{d:Nat}(hn:n=L.length):VLe (qhH (some (qZ v ty (jv L))) v 7 0 n (rei fz h (d+1))) (qbb L):=by
 subst hn;unfold qZ;split
 ·rename_i e
  have:L= []:=by
   cases L with
   |nil=>rfl
   |cons a r=>exact absurd e (by simp[jv,wdC])
  subst this;rw[slOf_emp,ipo rfl];exact zg
 ·rw[slOf_mem,ipo ⟨rfl,by rw[qh2];omega⟩];refine VLe.sl_eq rfl (fun i hi=> ?_);simp only[Nat.zero_add];rw[qh1 hi];rfl
theorem qAl{x:Co}{l:List Un}{d:List Dc}{s:Nat}: ∀ {j k:Nat},k≤j→(rwL x l d s k).length≤(rwL x l d s j).length:=by
 intro j
 induction j with
 |zero=>
  intro k h;obtain rfl:k=0:=by omega
  exact nlr _
 |succ j ih=>
  intro k h
  by_cases e:k=j+1
  ·subst e;exact nlr _
  ·refine Nat.le_trans (ih (show k≤j by omega)) ?_
   conv=>rhs;unfold rwL
   rw[lap];omega
theorem qnf{x:Co}{l:List Un}{d:List Dc}{s k:Nat}(h:k≤l.length):(rwL x l d s k).length≤(rwA x l d s).length:=by
 refine Nat.le_trans (qAl h) ?_;unfold rwA;rw[lap];omega
theorem quN{x:Co}{l:List Un}(ho:CoOk x)(hus:qcA x l=true){k:Nat}(hk:k<l.length){o:Dc}(hE:qds x l o=0): ∀p∈qoz x l k o,PcF p:=by
 obtain⟨a1,a2,a3,a4,_⟩:=qar hus hk;obtain⟨p1,p2,p3,p4,p5,p6⟩:=qbX hE;intro p hp;unfold qoz at hp;split at hp
 ·have:=(qhQ p4).2.1
  exact qaD ho this om p hp
 ·split at hp
  ·rename_i g;obtain⟨r1,r2,r3,r4⟩:=qk8 p6 g;exact qsn r2 p hp
  ·cases hp
theorem quO{x:Co}{l:List Un}{d:List Dc}{s:Nat}(ho:CoOk x)(hus:qcA x l=true)(hs:s<x.sig.length)(hpl: ∀i,i<d.length→qds x l (d.getD i default)=0){k:Nat}(hk:k<l.length): ∀r∈rwU x l d s k,PcF r.p:=by
 obtain⟨a1,a2,a3,a4,_⟩:=qar hus hk;intro r hr;unfold rwU at hr;split at hr
 ·exact qaD ho hs om _ (j8.1 hr).1
 ·rename_i g
  have:=qcL x l d k d.length
  exact quN ho hus hk (hpl _ om) _ (j8.1 hr).1
theorem qgp{x:Co}{l:List Un}{d:List Dc}{s:Nat}(ho:CoOk x)(hus:qcA x l=true)(hs:s<x.sig.length)(hpl: ∀i,i<d.length→qds x l (d.getD i default)=0): ∀ {k:Nat},k≤l.length→ ∀r∈rwL x l d s k,PcF r.p:=by
 intro k
 induction k with
 |zero=>intro _ r hr;cases hr
 |succ k ih=>
  intro hk r hr;obtain⟨a1,a2,a3,a4,_⟩:=qar hus (show k<l.length by omega);have a5:=qhv hus (show k<l.length by omega);unfold rwL at hr;rcases List.mem_append.1 hr with hr|hr
  ·exact ih om r hr
  ·rcases List.mem_append.1 hr with hr|hr
   ·exact qaD ho hs om _ (j8.1 hr).1
   ·exact quO ho hus hs hpl om r hr
theorem qE5{hh:List AObj}{j k v w:Nat}(n:Nat)(a:Int)(cs:List AV)(hj:qr j hh=some (.mem v 3 (.int .i64 a::cs)))(hk:qr k hh=some (.emp w))(h0:0<n)(hl:n≤1000000000):
  ACalls Tryz.prog 78 [.osl j v 1 0 1,.int .i64 (n:Int)] hh (.osl k (w+1) 1 0 n) (qo k (qo j hh (.emp (v+1))) (.mem (w+1) 3 (qT (List.replicate n a)))):=by
 have hne:j≠k:=fun e=>by subst e;rw[hj]at hk;cases hk
 have hs:qI hh j=true:=by unfold qI;rw[hj]
 have e1:qdq [j] hh=qo j hh (.emp (v+1)):=by show qo j hh (.emp (qq (qr j hh)+1))=_;rw[hj];rfl
 have hk1:qr k (qo j hh (.emp (v+1)))=some (.emp w):=by rw[qR (fun e=>hne e.symm)];exact hk
 refine ACalls.frzd [j] (by show (qI hh j&&true)=true;rw[hs];rfl) ?_;rw[e1];have h1:=qE6 a n (qo j hh (.emp (v+1))) k (by unfold qI;rw[hk1]) h0 hl;rw[hk1]at h1;refine h1.le ⟨?_,qi,trivial⟩ (qi);have hc:=qQ hj;have e: [j].contains j=true:=by simp
 simp only[go_sem,e,if_true,hc];rw[hj,slOf_mem,ipo ⟨rfl,by simp⟩];refine VLe.sl_eq rfl (fun i hi=> ?_);obtain rfl:i=0:=by omega
 rfl
theorem qEx(x:Co)(l:List Un)(d:List Dc)(s:Int)(h:List AObj)(hz:qdA x)(hu:qjE l)(hp:kR SG h)(hg:zS h frmN frmC)(hl0:l≠ [])(hd:d.length≤1000000)(ht: ∀o∈d,o.txt.length≤1000)(hN0:vaE x l=0→(rwA x l d s.toNat).length≤1000000000):
  ACalls Tryz.prog 25 [.agg (coC x),jc l,qaz d,.int .i64 s] h (.tup [qbb (esR x l d s),.int .i64 (esE x l d s)]) h:=by
 have c1:=fun l'=>qtl x l (h++l') hz hu (hp.app l')
 have zu: ∀g l,valL g .len [jc l]= .int .i64 l.length:=fun _ _=>rfl
 have zv: ∀g l,okL g .len [jc l]=True:=fun _ _=>eqt trivial
 have zu1: ∀g l,valL g .len [strs l]= .int .i64 l.length:=fun _ _=>rfl
 have zv1: ∀g l,okL g .len [strs l]=True:=fun _ _=>eqt trivial
 have hE:esE x l d s=(if vaE x l≠0 then vaE x l else if s<0∨(x.sig.length:Int)≤s then 2 else if qbY x l d≠0 then qbY x l d else if 1024<(rwA x l d s.toNat).length then 4 else 0):=rfl;unfold esR
 by_cases g:vaE x l=0
 case neg=>
  have k1:(vaE x l=0)=False:=eqf g;rw[ipo g]at hE;rw[hE,ine g];unfold coC at c1;refine acO qa1 ?_;simp (disch:=omega) only[qfZ,coC,go_sem]
  repeat' first
   |(refine cA (c1 _) flk ?_;simp (disch:=omega) only[k1,go_sem])
   |(apply qb;exact rvk;simp only[go_sem])
  exact VLe.tup ⟨zg,qi,trivial⟩
 rw[ine (by simpa using g)]at hE;have hN:=hN0 g;simp only[g]at c1;obtain⟨hca,hus,hcv⟩:=qfT g;have ho:=qbh hca
 by_cases g2:s<0
 ·have k2:(s<0)=True:=eqt g2;rw[ipo (.inl g2)]at hE;rw[hE,ine (by decide)];unfold coC at c1;refine acO qa1 ?_;simp (disch:=omega) only[qfZ,coC,go_sem]
  repeat' first
   |(refine cA (c1 _) flk ?_;simp (disch:=omega) only[k2,go_sem])
   |(apply qb;exact rvk;simp only[go_sem])
  exact VLe.tup ⟨zg,qi,trivial⟩
 have k2:(s<0)=False:=eqf g2
 by_cases g3:(x.sig.length:Int)≤s
 ·have k3:((x.sig.length:Int)≤s)=True:=eqt g3;rw[ipo (.inr g3)]at hE;rw[hE,ine (by decide)];unfold coC at c1;refine acO qa1 ?_;simp (disch:=omega) only[qfZ,coC,go_sem]
  repeat' first
   |(refine cA (c1 _) flk ?_;simp (disch:=omega) only[k2,k3,zu1,zv1,go_sem])
   |(apply qb;exact rvk;simp only[go_sem])
  exact VLe.tup ⟨zg,qi,trivial⟩
 have k3:((x.sig.length:Int)≤s)=False:=eqf g3;rw[ine (fun e=>e.elim g2 g3)]at hE;have c2:=fun l'=>qC2 x l d (h++l') hz hu (hp.app l') hg.app hca hd ht
 unfold qz3 at c2
 by_cases g4:qbY x l d=0
 case neg=>
  have k4:(qbY x l d=0)=False:=eqf g4;simp only[ine g4]at c2;rw[ipo g4]at hE;rw[hE,ine g4];unfold coC at c1 c2;refine acO qa1 ?_;simp (disch:=omega) only[qfZ,coC,go_sem]
  repeat' first
   |((first|refine cA (c1 _) ?_ ?_|refine cA (c2 _) ?_ ?_);exact flk;simp (disch:=omega) only[k2,k3,k4,zu1,zv1,go_sem])
   |(apply qb;exact rvk;simp only[go_sem])
   |with_reducible apply aiA
  all_goals try exact clz
  exact VLe.tup ⟨zg,qi,trivial⟩
 rw[ine (by simpa using g4)]at hE;simp only[g4,if_true]at c2;rw[hE];unfold coC at c1 c2;refine acO qa1 ?_;simp (disch:=omega) only[qfZ,coC,go_sem]
 repeat' first
  |((first|refine cA (c1 _) ?_ ?_|refine cA (c2 _) ?_ ?_);exact flk;simp (disch:=omega) only[k2,k3,zu1,zv1,zu,zv,go_sem])
  |with_reducible apply aiA
 all_goals try exact clz
 have hlp:0<l.length:=List.length_pos_iff.2 hl0;refine qy (qE5 (j:=h.length+2) (k:=h.length+13) (w:=0) l.length (-1) (List.drop 1 (ze [.int .i64 0] 1)) ?j1 ?j2 hlp hu.n) (by exact flk) ?_
 case j1=>simp only[go_sem]
 case j2=>simp only[go_sem]
 have zi: ∀g l,valL g .len [qG l]= .int .i64 l.length:=fun _ _=>rfl
 have zj: ∀g l,okL g .len [qG l]=True:=fun _ _=>eqt trivial
 have ePL:(plG x l d d.length).length=d.length:=by unfold plG;rw[List.length_map,List.take_length]
 simp (disch:=omega) only[zi,zj,ePL,go_sem];rw[←qzO x l d];have hpl: ∀i,i<d.length→qds x l (d.getD i default)=0:=by
  have:=g4
  unfold qbY at this;split at this
  ·cases this
  ·intro i hi;exact jO.1 this i hi
 refine qt (T:=fun i:Nat=>qY 154 [(1,jc l),(2,qaz d),(3,.int .i64 s),(4,.op h.length 1 0),(13,.osl (h.length+13) 1 1 0 l.length),(55,.sl d.length fun i=> [.int .i64 ((plG x l d d.length).getD i 0)]),(56,.int .i64 d.length),(57,.int .i64 i)])
  (H:=fun i=>h++ [.mem 1 26 [.str x.sec,strs x.sig,qm x.tok,qv x.col],.emp 1,.emp 2,.emp 0,.emp 0,.emp 0,.emp 0,.emp 0,.emp 0,.emp 0,.emp 0,.emp 0,.emp 0,.mem 1 3 (qT (qbs x l d i)),.emp 0,.emp 0])
  (inv:=fun i=>i≤d.length) (m:=fun i=>d.length-i) 0 (nzl _) (Wk.temps ?_) ?_
 ·(simp only[go_sem,qh,qc,qa,qg];try (repeat' first|(with_reducible apply aiA)|(apply qf;omega)|(apply qe;rfl)|exact qi))
  have eI:qG (plG x l d d.length)= .sl d.length fun i=> [.int .i64 ((plG x l d d.length).getD i 0)]:=by unfold qG;rw[ePL]
  rw[eI];exact qi
 rintro i i1 K hK;have hll:=qhp x l d i;have hlc:=jU (qbs x l d i)
 by_cases hi:i<d.length
 ·have q1:((i:Int)<d.length)=True:=eqt om;have q2:(0≤(i:Int))=True:=eqt om;have e0:=hpl i hi;obtain⟨_,_,_,_,p5,_⟩:=qbX e0;obtain⟨k,hk⟩: ∃k:Nat,qaq x l (d.getD i default)=k:=⟨(qaq x l (d.getD i default)).toNat,om⟩
  have hkl:k<l.length:=by
   have:=(qgh l (qag x (zP x (d.getD i default).sig).toNat (d.getD i default).tok)).2
   have h2:fnU l (qag x (zP x (d.getD i default).sig).toNat (d.getD i default).tok)=k:=hk;omega
  have q3:((k:Int)<l.length)=True:=eqt om;have q4:(0≤(k:Int))=True:=eqt om;have eA:=qz0 (x:=x) (l:=l) hi;rw[hk]at eA;have hst:=qmb (n:=i) hkl hk;simp (disch:=omega) only[q1,q2,q3,q4,eA,hlc,hll,go_sem]
  repeat' first
   |with_reducible apply aiA
  all_goals try exact clz
  have eB:List.take k (qT (qbs x l d i))++ [AV.int .i64 (i:Int)]++List.drop (k+1) (qT (qbs x l d i))=qT (qbs x l d (i+1)):=by
   rw[hst];unfold qT;rw[List.set_eq_take_append_cons_drop,ipo (by rw[hll];exact hkl)];simp[List.map_append,List.map_take,List.map_drop]
  rw[eB];refine hK _ _ (i+1) hi om (Wk.temps ?_)
  (simp only[go_sem,qh,qc,qa,qg];try (repeat' first|(with_reducible apply aiA)|(apply qf;omega)|(apply qe;rfl)|exact qi))
 ·have q1:((i:Int)<d.length)=False:=eqf om;obtain rfl:i=d.length:=by omega
  simp (disch:=omega) only[q1,go_sem];refine⟨_,_,Wk.ownNil (j:=h.length+3) (i:=0) (k:=h.length+15) (v:=1) (ty:=29) (cs:= [.nl]) (ve:=0) (sz:=7) ?m1 rfl ?m2,?_⟩
  case m1=>simp only[go_sem]
  case m2=>simp only[go_sem]
  have s1:=fun h=>qnC h l
  have eP:=qcR l;simp (disch:=omega) only[List.set_cons_zero,go_sem];have hun:=hu.n;have bne5:(h.length+14 !=h.length+5)=true:=by simp
  have zc: ∀g l,valL g .len [qv l]= .int .i64 l.length:=fun _ _=>rfl
  have zd: ∀g l,okL g .len [qv l]=True:=fun _ _=>eqt trivial
  refine ku ?T ?H ?h1 ?h2
  case h1=>
   simp (disch:=omega) only[List.set_cons_zero,zc,zd,go_sem]
   repeat' first
    |(with_reducible apply aiA)
    |(refine qy (qEu l _ (h.length+14) (by simp only[go_sem]) hl0 hu.n) (by exact flk) ?_;simp (disch:=omega) only[List.set_cons_zero,eP,zc,zd,go_sem])
   all_goals first
    |omega
    |rfl
    |exact bne5
  case h2=>
  simp (disch:=omega) only[go_sem];obtain⟨S,hS⟩: ∃S:Nat,s=S:=⟨s.toNat,om⟩
  subst hS;rw[itn]at hN ⊢;have hSl:S<x.sig.length:=by omega
  have eTk:List.take (l.length*3) (qaS l)=qaS l:=ltl om;rw[eTk];obtain⟨MC,hMC⟩: ∃MC,MC=qaS l++ [AV.int .i64 x.col.length,.int .i64 x.col.length,.nl]:=⟨_,rfl⟩
  have hMl:MC.length=(l.length+1)*3:=by rw[hMC];simp[eP];omega
  have eM1: ∀k,k<l.length→List.take 3 (List.drop (k*3) MC)=unC (l.getD k default):=fun k hk=>by
   rw[hMC,List.drop_append_of_le_length om,List.take_append_of_le_length (by rw[List.length_drop];omega)];exact qhX hk
  have eM2:List.take 3 (List.drop (l.length*3) MC)= [AV.int .i64 x.col.length,.int .i64 x.col.length,.nl]:=by
   rw[hMC,List.drop_append,List.drop_eq_nil_of_le om,lna,eP,Nat.sub_self];rfl
  rw[←hMC];obtain⟨O5,hO5⟩: ∃O5,O5=AObj.mem 1 64 (AV.int .i64 x.col.length:: .int .i64 x.col.length:: .nl::List.drop 3 (ze [.int .i64 0,.int .i64 0,.nl] 1)):=⟨_,rfl⟩
  rw[←hO5];obtain⟨LST,hLST⟩: ∃L,L=AObj.mem 1 3 (qT (qbs x l d d.length)):=⟨_,rfl⟩
  have hll:=qhp x l d d.length;have hlc:=jU (qbs x l d d.length);obtain⟨X0,hX0⟩: ∃X0,X0=AObj.mem 1 26 [.str x.sec,strs x.sig,qm x.tok,qv x.col]:=⟨_,rfl⟩
  have lX0: ∀n,lowO n X0:=by
   intro n;rw[hX0];intro c hc;simp at hc;rcases hc with rfl|rfl|rfl|rfl<;>rfl
  refine qt (T:=fun i:EsS=>qY 154 [(1,jc l),(2,qaz d),(3,.int .i64 (S:Int)),(4,.op h.length 1 0),(13,.osl (h.length+13) 1 1 0 l.length),(16,.op (h.length+3) 1 0),(17,.op (h.length+4) 1 0),(18,.int .i64 (nxT x l i.k:Int)),(78,.osl (h.length+14) 2 3 0 (l.length+1)),(79,.int .i64 ((l.length+1:Nat):Int)),(80,.int .i64 i.k)])
   (H:=fun i=>h++ [.mem 1 26 [.str x.sec,strs x.sig,qm x.tok,qv x.col],.emp 1,.emp 2,.mem 1 29 [.osl (h.length+15) i.vb 7 0 (rwK x l d S i.k).length],.mem 1 117 [.fn (.func 79) [] [.op (h.length+3) 1 0]],O5,.emp 0,i.O7,i.O8,i.O9,i.O10,i.O11,i.O12,.mem 1 3 (qT (qbs x l d d.length)),.mem 2 64 MC,qZ i.vb 36 (jv (bsW (rwK x l d S i.k)))])
   (inv:=fun i=>i.k≤l.length+1∧ ∀O∈ [i.O7,i.O8,i.O9,i.O10,i.O11,i.O12],qI [O] 0=true∧ ∀n,lowO n O) (m:=fun i=>l.length+1-i.k) ⟨0,0,.emp 0,.emp 0,.emp 0,.emp 0,.emp 0,.emp 0⟩ ⟨nzl _,fun O hO=>by
    simp at hO;subst hO;exact⟨rfl,fun _=>trivial⟩⟩ (Wk.temps ?_) ?_
  ·(simp only[go_sem,qh,qc,qa,qg];try (repeat' first|(with_reducible apply aiA)|(apply qf;omega)|(apply qe;rfl)|exact qi))
   done
  rintro⟨k,vb,O7,O8,O9,O10,O11,O12⟩ ⟨i1,i2⟩ K hK;simp only at i1 i2 hK;obtain⟨s7,l7⟩:=i2 O7 (by simp);obtain⟨s8,l8⟩:=i2 O8 (by simp);obtain⟨s9,l9⟩:=i2 O9 (by simp);obtain⟨s10,l10⟩:=i2 O10 (by simp);obtain⟨s11,l11⟩:=i2 O11 (by simp);obtain⟨s12,l12⟩:=i2 O12 (by simp);have s7': ∀m,qI (O7::m) 0=true:=fun _=>s7
  have s8': ∀m,qI (O8::m) 0=true:=fun _=>s8
  by_cases hk:k≤l.length
  case neg=>
   have q1:((k:Int)<((l.length+1:Nat):Int))=False:=eqf om;have eR:rwK x l d S k=rwA x l d S:=by unfold rwK;rw[ine hk]
   rw[eR]
   by_cases g5:1024<(rwA x l d S).length
   ·have q5:((1024:Int)<(rwA x l d S).length)=True:=eqt om;simp only[ipo g5];simp (disch:=omega) only[q1,q5,go_sem]
    repeat' first
     |(apply qb;exact rvk;simp only[go_sem])
     |with_reducible apply aiA
    all_goals try exact clz
    exact VLe.tup ⟨zg,qi,trivial⟩
   ·have q5:((1024:Int)<(rwA x l d S).length)=False:=eqf om;simp only[ine g5];simp (disch:=omega) only[q1,q5,go_sem]
    repeat' first
     |(apply qb;exact rvk;simp only[go_sem])
     |with_reducible apply aiA
    all_goals try exact clz
    exact VLe.tup ⟨qeC (qad _).symm,qi,trivial⟩
  have q1:((k:Int)<((l.length+1:Nat):Int))=True:=eqt om;have q2:(0≤(k:Int))=True:=eqt om;have q3:(k*3+3≤MC.length)=True:=eqt om;have eR:rwK x l d S k=rwL x l d S k:=by unfold rwK;rw[ipo hk]
  have eN:nxT x l k=jf l k:=by unfold nxT;rw[ipo hk]
  rw[eR,eN];obtain⟨f,t',RV,eM,a5,a6,lRV,hA,hB⟩: ∃(f t':Nat) (RV:AV),List.take 3 (List.drop (k*3) MC)= [.int .i64 (f:Int),.int .i64 (t':Int),RV]∧jf l k≤f∧f≤x.col.length∧(∀n,qU n RV=true)∧(k<l.length→f=frN l k∧t'=toN l k∧RV=jQ (l.getD k default).rds)∧(k=l.length→f=x.col.length∧t'=x.col.length):=by
   by_cases hkl:k<l.length
   ·obtain⟨a1,a2,a3,a4,_⟩:=qar hus hkl;have eM:=eM1 k hkl;unfold unC at eM;rw[a1,a2]at eM;exact⟨frN l k,toN l k,_,eM,qhv hus hkl,om,fun _=>rfl,fun _=>⟨rfl,rfl,rfl⟩,fun e=>by omega⟩
   ·obtain rfl:k=l.length:=by omega
    exact⟨x.col.length,x.col.length,.nl,eM2,qet hus (nlr _),nlr _,fun _=>rfl,fun e=>by omega,fun _=>⟨rfl,rfl⟩⟩
  have c3:=fun h=>qAA x (jf l k) f S h
  have hit:=itS x S (jf l k) f hz ho hSl a6 a5;have hpF:=qaD ho hSl (f:=jf l k) (d:=f-jf l k) om;obtain⟨ps,hps⟩: ∃ps,ps=spk x S (jf l k) (f-jf l k):=⟨_,rfl⟩
  have hxl:(spX x S (jf l k) (f-jf l k))=ps.map fun p=> [.agg (pcC p)]:=by unfold spX;rw[hps]
  rw[hxl]at hit;rw[←hps]at hpF;unfold coC at c3 hit;simp (disch:=omega) only[q1,q2,q3,eM,s7',s8',go_sem]
  repeat' first
   |(refine cA (c3 _) flk ?_;simp (disch:=omega) only[go_sem])
  obtain⟨L0,hL0⟩: ∃L0,L0=rwL x l d S k:=⟨_,rfl⟩
  have hLF: ∀r∈L0,PcF r.p:=by rw[hL0];exact qgp ho hus hSl hpl hk
  have hLn:(L0++rwM ps (-1) (-1)).length≤1000000000:=by
   refine Nat.le_trans ?_ hN
   by_cases hkl:k<l.length
   ·obtain⟨b1,_⟩:=hA hkl;refine Nat.le_trans ?_ (qnf (show k+1≤l.length by omega));rw[hL0,hps,b1]
    conv=>rhs;unfold rwL
    rw[lap,lap,lap];show _≤_+((rwM _ _ _).length+_);omega
   ·obtain⟨b1,_⟩:=hB om;have hke:k=l.length:=by omega
    rw[hL0,hps,b1,hke];exact nlr _
  rw[←hL0];obtain⟨P7,hP7⟩: ∃P7,P7=AObj.mem (qq (some O7)+1) 3 [.int .i64 (k:Int)]:=⟨_,rfl⟩
  obtain⟨P8,hP8⟩: ∃P8,P8=AObj.mem (qq (some O8)+1) 64 [.int .i64 (f:Int),.int .i64 (t':Int),RV]:=⟨_,rfl⟩
  have hP7l:qI [P7] 0=true∧ ∀n,lowO n P7:=by
   rw[hP7];refine⟨rfl,fun n c hc=> ?_⟩;rw[List.mem_singleton]at hc;subst hc;rfl
  have hP8l:qI [P8] 0=true∧ ∀n,lowO n P8:=by
   rw[hP8];refine⟨rfl,fun n c hc=> ?_⟩;simp only[List.mem_cons,List.not_mem_nil,or_false]at hc;rcases hc with rfl|rfl|rfl
   ·rfl
   ·rfl
   ·exact lRV n
  have cP7: ∀m,cellsOf (P7::m) 0 (qq (some O7)+1)=some [.int .i64 (k:Int)]:=fun m=>by rw[hP7];simp only[go_sem]
  rw[←hP7,←hP8];have lP: ∀L:List Rw,∀v n,lowO n (qZ v 36 (jv (bsW L))):=fun L v n=>jp (qcS _ n)
  have hLow: ∀(L M:List Rw) (v w:Nat) O A,(∀n,lowO n A)→LowI (h++ [.mem 1 26 [.str x.sec,strs x.sig,qm x.tok,qv x.col],.emp 1,.emp 2,.mem 1 29 [.osl (h.length+15) w 7 0 M.length],.mem 1 117 [.fn (.func 79) [] [.op (h.length+3) 1 0]],O5,.emp 0,P7,P8,O,O10,O11,O12,.mem 1 3 (qT (qbs x l d d.length)),.mem 2 64 MC,qZ w 36 (jv (bsW M))])
    (h++ [.mem 1 26 [.str x.sec,strs x.sig,qm x.tok,qv x.col],.emp 1,.emp 2,.mem 1 29 [.osl (h.length+15) v 7 0 L.length],.mem 1 117 [.fn (.func 79) [] [.op (h.length+3) 1 0]],O5,.emp 0,P7,P8,A,O10,O11,O12,.mem 1 3 (qT (qbs x l d d.length)),.mem 2 64 MC,qZ v 36 (jv (bsW L))]):=fun L M v w O A lA=>by
   refine⟨by simp,fun o ho=> ?_⟩;rcases List.mem_append.1 ho with h1|h1
   ·exact .inl (List.mem_append_left _ h1)
   ·simp only[List.mem_cons,List.not_mem_nil,or_false]at h1;rcases h1 with rfl|rfl|rfl|rfl|rfl|rfl|rfl|rfl|rfl|rfl|rfl|rfl|rfl|rfl|rfl|rfl
    ·left;simp
    ·left;simp
    ·left;simp
    ·right;refine⟨fun c hc=> ?_,fun c hc=> ?_⟩<;>
     ·rw[List.mem_singleton]at hc;subst hc;simp[qU]
      try omega
    ·left;simp
    ·left;simp
    ·left;simp
    ·left;simp
    ·left;simp
    ·right;exact⟨lA _,lA _⟩
    ·left;simp
    ·left;simp
    ·left;simp
    ·left;simp
    ·left;simp
    ·right;exact⟨lP _ _ _,lP _ _ _⟩
  refine zk hit (fun a ha=> ?_)
   (S:=fun i hh=> ∃A,qI [A] 0=true∧(∀n,lowO n A)∧hh=h++ [.mem 1 26 [.str x.sec,strs x.sig,qm x.tok,qv x.col],.emp 1,.emp 2,.mem 1 29 [.osl (h.length+15) (vb+i) 7 0 (L0++rwM (ps.take i) (-1) (-1)).length],.mem 1 117 [.fn (.func 79) [] [.op (h.length+3) 1 0]],O5,.emp 0,P7,P8,A,O10,O11,O12,.mem 1 3 (qT (qbs x l d d.length)),.mem 2 64 MC,qZ (vb+i) 36 (jv (bsW (L0++rwM (ps.take i) (-1) (-1))))]) (E:=fun _ _=>False) ?_ ?_ ?_ ?_ ?_ ?_ ?_
  ·obtain⟨c,_,rfl⟩:=List.mem_map.1 ha;rfl
  ·rintro i hh ⟨A,_,lA,rfl⟩;exact hLow _ _ _ _ _ _ lA
  ·intro s hh hf;exact hf.elim
  ·exact⟨O9,s9,l9,by simp[rwM]⟩
  ·simp[qU,qU.lowVs]
   repeat' apply aiA
   all_goals first|rfl|omega|exact lRV _
  ·rintro i hh tl LI TS hi ⟨A,sA,lA,rfl⟩ hlen K1 K2 hK1 hN1 hR1 hX1;have hi':i<ps.length:=by rw[List.length_map]at hi;exact hi
   rw[List.getElem_map];have sA': ∀m,qI (A::m) 0=true:=fun _=>sA
   have hS:L0++rwM (ps.take (i+1)) (-1) (-1)=(L0++rwM (ps.take i) (-1) (-1))++ [⟨ps.getD i default,-1,-1⟩]:=by
    unfold rwM;rw[List.take_add_one,zH hi',List.map_append,gdqA,zH hi',List.append_assoc];rfl
   have eG:ps[i]=ps.getD i default:=by rw[gdqA,zH hi'];rfl
   rw[eG];have hpm:ps.getD i default∈ps:=jo hi';obtain⟨p,hp'⟩: ∃p,p=ps.getD i default:=⟨_,rfl⟩
   rw[←hp']at hS hpm ⊢;obtain⟨M,hM⟩: ∃M,M=L0++rwM (ps.take i) (-1) (-1):=⟨_,rfl⟩
   have hMF: ∀r∈M,PcF r.p:=fun r hr=>by
    rw[hM]at hr;rcases List.mem_append.1 hr with hr|hr
    ·exact hLF r hr
    ·exact hpF _ (List.mem_of_mem_take (j8.1 hr).1)
   have hMn:M.length≤1000000000:=by
    rw[hM,lap,jH,List.length_take];rw[lap,jH]at hLn;omega
   rw[←hM]at hS ⊢;simp only[kF,List.append_assoc,lca,lna];simp (disch:=omega) only[sA',pcC,tkC,go_sem];refine hK1 _ _ (h++ [.mem 1 26 [.str x.sec,strs x.sig,qm x.tok,qv x.col],.emp 1,.emp 2,.mem 1 29 [.osl (h.length+15) (vb+i) 7 0 M.length],.mem 1 117 [.fn (.func 79) [] [.op (h.length+3) 1 0]],O5,.emp 0,P7,P8,(.mem (qq (some A)+1) 115 (pcC p)),O10,O11,O12,.mem 1 3 (qT (qbs x l d d.length)),.mem 2 64 MC,qZ (vb+i) 36 (jv (bsW M))]) ?_ ?_ ?_
   ·simp[pcC,tkC]
   ·simp
   ·simp only[List.append_assoc,lca,lna];simp (disch:=omega) only[pcC,tkC,go_sem]
    repeat' first
     |with_reducible apply aiA
    all_goals try exact clz
    refine kq (qwf (a:=h.length+3) (b:=h.length+15) (c:=h.length) (va:=1) (vb:=vb+i) (Z:= .mem 1 26 [.str x.sec,strs x.sig,qm x.tok,qv x.col]) ⟨by simp,by simp,by simp,om,om,om⟩ M p (-1) (-1) (by simp only[go_sem]) (by simp only[go_sem]) (by simp only[go_sem]) (by rw[←hX0];exact lX0) (hpF p hpm) hMn hMF) ?_;simp (disch:=omega) only[go_sem];refine hN1 _ _ (h++ [.mem 1 26 [.str x.sec,strs x.sig,qm x.tok,qv x.col],.emp 1,.emp 2,.mem 1 29 [.osl (h.length+15) (vb+(i+1)) 7 0 (M++ [(⟨p,-1,-1⟩:Rw)]).length],.mem 1 117 [.fn (.func 79) [] [.op (h.length+3) 1 0]],O5,.emp 0,P7,P8,(.mem (qq (some A)+1) 115 (pcC p)),O10,O11,O12,.mem 1 3 (qT (qbs x l d d.length)),.mem 2 64 MC,qZ (vb+(i+1)) 36 (jv (bsW (M++ [(⟨p,-1,-1⟩:Rw)])))]) ?_ ?_ ⟨_,rfl,?_,by rw[hS]⟩
    ·simp[pcC,tkC,Nat.add_assoc]
    ·simp
    ·intro n c hc;simp[pcC,tkC]at hc;rcases hc with rfl|rfl|rfl|rfl|rfl|rfl|rfl<;>rfl
  ·rintro hh ⟨A,sA,lA,rfl⟩;rw[List.length_map,List.take_length];obtain⟨L1,hL1⟩: ∃L1,L1=L0++rwM ps (-1) (-1):=⟨_,rfl⟩
   rw[←hL1]
   by_cases hkl:k<l.length
   case neg=>
    have hke:k=l.length:=by omega
    obtain⟨b1,b2⟩:=hB hke;have q4:((k:Int)=l.length)=True:=eqt om;rw[hP7,hP8];simp (disch:=omega) only[q4,zu,zv,go_sem]
    repeat' first
     |with_reducible apply aiA
    all_goals try exact clz
    rw[←hP7,←hP8];have e1:rwK x l d S (k+1)=L1:=by
     unfold rwK;rw[ine om,hL1,hL0,hps,b1,hke];rfl
    have e2:nxT x l (k+1)=t':=by unfold nxT;rw[ine om,b2]
    refine hK _ _ ⟨k+1,vb+ps.length,P7,P8,A,O10,O11,O12⟩ ⟨by simp only;omega,fun O hO=> ?_⟩ (by simp only;omega) ?_
    ·simp only[List.mem_cons,List.not_mem_nil,or_false]at hO;rcases hO with rfl|rfl|rfl|rfl|rfl|rfl
     ·exact hP7l
     ·exact hP8l
     ·exact⟨sA,lA⟩
     ·exact⟨s10,l10⟩
     ·exact⟨s11,l11⟩
     ·exact⟨s12,l12⟩
    ·simp only[e1,e2];refine Wk.temps ?_
     (simp only[go_sem,qh,qc,qa,qg];try (repeat' first|(with_reducible apply aiA)|(apply qf;omega)|(apply qe;rfl)|exact qi))
   obtain⟨b1,b2,b3⟩:=hA hkl;have q4:((k:Int)=l.length)=False:=eqf om;have q5:((k:Int)<l.length)=True:=eqt om;have q6:(k<l.length)=True:=eqt hkl;have eLs:(qT (qbs x l d d.length))[k]? =some (.int .i64 (qcu x l d k d.length)):=by
    unfold qT
    have:=qur (x:=x) (d:=d) (n:=d.length) hkl
    rw[List.getElem?_map,zH (by rw[hll];exact hkl)];rw[gdqA,zH (by rw[hll];exact hkl)]at this;rw[←this];rfl
   obtain⟨D,hD⟩: ∃D,D=qcu x l d k d.length:=⟨_,rfl⟩
   rw[←hD]at eLs;rw[hP7,hP8]
   by_cases g6:D<0
   ·have q7:(D<0)=True:=eqt g6;have c4:=fun h=>qAA x f t' S h
    unfold coC at c4;simp (disch:=omega) only[q2,q4,q5,q6,q7,hlc,hll,eLs,zu,zv,go_sem]
    repeat' first
     |(refine cA (c4 _) flk ?_;simp (disch:=omega) only[go_sem])
     |with_reducible apply aiA
    all_goals try exact clz
    rw[←hP7,←hP8];obtain⟨A0,hA0⟩: ∃A0,A0=A:=⟨_,rfl⟩
    rw[←hA0];obtain⟨vc,hvc⟩: ∃vc,vc=vb+ps.length:=⟨_,rfl⟩
    rw[←hvc];obtain⟨_,_,a3,a4,_⟩:=qar hus hkl;have hit2:=itS x S f t' hz ho hSl om om;have hpF2:=qaD ho hSl (f:=f) (d:=t'-f) om;obtain⟨qs,hqs⟩: ∃qs,qs=spk x S f (t'-f):=⟨_,rfl⟩
    have hxl2:(spX x S f (t'-f))=qs.map fun p=> [.agg (pcC p)]:=by unfold spX;rw[hqs]
    rw[hxl2]at hit2;rw[←hqs]at hpF2;unfold coC at hit2;have eR1:rwK x l d S (k+1)=L1++rwM qs (k:Int) (-1):=by
     unfold rwK;rw[ipo om];show rwL x l d S k++(rwC x S (jf l k) (frN l k)++rwU x l d S k)=_;unfold rwU;rw[ipo (by rw[←hD];exact g6),hL1,hL0,hps,hqs,b1,b2,List.append_assoc];rfl
    have hLF2: ∀r∈L1,PcF r.p:=fun r hr=>by
     rw[hL1]at hr;rcases List.mem_append.1 hr with hr|hr
     ·exact hLF r hr
     ·exact hpF _ (j8.1 hr).1
    have hLn2:(L1++rwM qs (k:Int) (-1)).length≤1000000000:=by
     rw[←eR1];unfold rwK;rw[ipo om];exact Nat.le_trans (qnf (show k+1≤l.length by omega)) hN
    have hLow2: ∀(L M:List Rw) (v w:Nat) O A,(∀n,lowO n A)→LowI (h++ [.mem 1 26 [.str x.sec,strs x.sig,qm x.tok,qv x.col],.emp 1,.emp 2,.mem 1 29 [.osl (h.length+15) w 7 0 M.length],.mem 1 117 [.fn (.func 79) [] [.op (h.length+3) 1 0]],O5,.emp 0,P7,P8,A0,O,O11,O12,.mem 1 3 (qT (qbs x l d d.length)),.mem 2 64 MC,qZ w 36 (jv (bsW M))])
      (h++ [.mem 1 26 [.str x.sec,strs x.sig,qm x.tok,qv x.col],.emp 1,.emp 2,.mem 1 29 [.osl (h.length+15) v 7 0 L.length],.mem 1 117 [.fn (.func 79) [] [.op (h.length+3) 1 0]],O5,.emp 0,P7,P8,A0,A,O11,O12,.mem 1 3 (qT (qbs x l d d.length)),.mem 2 64 MC,qZ v 36 (jv (bsW L))]):=fun L M v w O A lA=>by
     refine⟨by simp,fun o ho=> ?_⟩;rcases List.mem_append.1 ho with h1|h1
     ·exact .inl (List.mem_append_left _ h1)
     ·simp only[List.mem_cons,List.not_mem_nil,or_false]at h1;rcases h1 with rfl|rfl|rfl|rfl|rfl|rfl|rfl|rfl|rfl|rfl|rfl|rfl|rfl|rfl|rfl|rfl
      ·left;simp
      ·left;simp
      ·left;simp
      ·right;refine⟨fun c hc=> ?_,fun c hc=> ?_⟩<;>
       ·rw[List.mem_singleton]at hc;subst hc;simp[qU]
        try omega
      ·left;simp
      ·left;simp
      ·left;simp
      ·left;simp
      ·left;simp
      ·left;simp
      ·right;exact⟨lA _,lA _⟩
      ·left;simp
      ·left;simp
      ·left;simp
      ·left;simp
      ·right;exact⟨lP _ _ _,lP _ _ _⟩
    refine zk hit2 (fun a ha=> ?_)
     (S:=fun i hh=> ∃A,qI [A] 0=true∧(∀n,lowO n A)∧hh=h++ [.mem 1 26 [.str x.sec,strs x.sig,qm x.tok,qv x.col],.emp 1,.emp 2,.mem 1 29 [.osl (h.length+15) (vc+i) 7 0 (L1++rwM (qs.take i) (k:Int) (-1)).length],.mem 1 117 [.fn (.func 79) [] [.op (h.length+3) 1 0]],O5,.emp 0,P7,P8,A0,A,O11,O12,.mem 1 3 (qT (qbs x l d d.length)),.mem 2 64 MC,qZ (vc+i) 36 (jv (bsW (L1++rwM (qs.take i) (k:Int) (-1))))]) (E:=fun _ _=>False) ?_ ?_ ?_ ?_ ?_ ?_ ?_
    ·obtain⟨c,_,rfl⟩:=List.mem_map.1 ha;rfl
    ·rintro i hh ⟨A,_,lA,rfl⟩;exact hLow2 _ _ _ _ _ _ lA
    ·intro s hh hf;exact hf.elim
    ·exact⟨O10,s10,l10,by simp[rwM]⟩
    ·simp[qU,qU.lowVs]
     repeat' apply aiA
     all_goals first|rfl|omega|exact lRV _
    ·rintro i hh tl LI TS hi ⟨A,sA,lA,rfl⟩ hlen K1 K2 hK1 hN1 hR1 hX1;have hi':i<qs.length:=by rw[List.length_map]at hi;exact hi
     rw[List.getElem_map];have sA': ∀m,qI (A::m) 0=true:=fun _=>sA
     have hS:L1++rwM (qs.take (i+1)) (k:Int) (-1)=(L1++rwM (qs.take i) (k:Int) (-1))++ [⟨qs.getD i default,(k:Int),-1⟩]:=by
      unfold rwM;rw[List.take_add_one,zH hi',List.map_append,gdqA,zH hi',List.append_assoc];rfl
     have eG:qs[i]=qs.getD i default:=by rw[gdqA,zH hi'];rfl
     rw[eG];have hpm:qs.getD i default∈qs:=jo hi';obtain⟨p,hp'⟩: ∃p,p=qs.getD i default:=⟨_,rfl⟩
     rw[←hp']at hS hpm ⊢;obtain⟨M,hM⟩: ∃M,M=L1++rwM (qs.take i) (k:Int) (-1):=⟨_,rfl⟩
     have hMF: ∀r∈M,PcF r.p:=fun r hr=>by
      rw[hM]at hr;rcases List.mem_append.1 hr with hr|hr
      ·exact hLF2 r hr
      ·exact hpF2 _ (List.mem_of_mem_take (j8.1 hr).1)
     have hMn:M.length≤1000000000:=by
      rw[hM,lap,jH,List.length_take];rw[lap,jH]at hLn2;omega
     rw[←hM]at hS ⊢;simp only[kF,List.append_assoc,lca,lna];simp (disch:=omega) only[sA',pcC,tkC,go_sem];refine hK1 _ _ (h++ [.mem 1 26 [.str x.sec,strs x.sig,qm x.tok,qv x.col],.emp 1,.emp 2,.mem 1 29 [.osl (h.length+15) (vc+i) 7 0 M.length],.mem 1 117 [.fn (.func 79) [] [.op (h.length+3) 1 0]],O5,.emp 0,P7,P8,A0,(.mem (qq (some A)+1) 115 (pcC p)),O11,O12,.mem 1 3 (qT (qbs x l d d.length)),.mem 2 64 MC,qZ (vc+i) 36 (jv (bsW M))]) ?_ ?_ ?_
     ·simp[pcC,tkC]
     ·simp
     ·simp only[List.append_assoc,lca,lna];simp (disch:=omega) only[pcC,tkC,cP7,go_sem]
      repeat' first
       |with_reducible apply aiA
      all_goals try exact clz
      refine kq (qwf (a:=h.length+3) (b:=h.length+15) (c:=h.length) (va:=1) (vb:=vc+i) (Z:= .mem 1 26 [.str x.sec,strs x.sig,qm x.tok,qv x.col]) ⟨by simp,by simp,by simp,om,om,om⟩ M p (k:Int) (-1) (by simp only[go_sem]) (by simp only[go_sem]) (by simp only[go_sem]) (by rw[←hX0];exact lX0) (hpF2 p hpm) hMn hMF) ?_;simp (disch:=omega) only[go_sem];refine hN1 _ _ (h++ [.mem 1 26 [.str x.sec,strs x.sig,qm x.tok,qv x.col],.emp 1,.emp 2,.mem 1 29 [.osl (h.length+15) (vc+(i+1)) 7 0 (M++ [(⟨p,(k:Int),-1⟩:Rw)]).length],.mem 1 117 [.fn (.func 79) [] [.op (h.length+3) 1 0]],O5,.emp 0,P7,P8,A0,(.mem (qq (some A)+1) 115 (pcC p)),O11,O12,.mem 1 3 (qT (qbs x l d d.length)),.mem 2 64 MC,qZ (vc+(i+1)) 36 (jv (bsW (M++ [(⟨p,(k:Int),-1⟩:Rw)])))]) ?_ ?_ ⟨_,rfl,?_,by rw[hS]⟩
      ·simp[pcC,tkC,Nat.add_assoc]
      ·simp
      ·intro n c hc;simp[pcC,tkC]at hc;rcases hc with rfl|rfl|rfl|rfl|rfl|rfl|rfl<;>rfl
    ·rintro hh ⟨B,sB,lB,rfl⟩;rw[List.length_map,List.take_length];simp (disch:=omega) only[go_sem];have e2:nxT x l (k+1)=t':=by
      unfold nxT;rw[ipo om,b2];unfold jf;rw[ine om,Nat.add_sub_cancel]
     refine hK _ _ ⟨k+1,vc+qs.length,P7,P8,A0,B,O11,O12⟩ ⟨by simp only;omega,fun O hO=> ?_⟩ (by simp only;omega) ?_
     ·simp only[List.mem_cons,List.not_mem_nil,or_false]at hO;rcases hO with rfl|rfl|rfl|rfl|rfl|rfl
      ·exact hP7l
      ·exact hP8l
      ·rw[hA0];exact⟨sA,lA⟩
      ·exact⟨sB,lB⟩
      ·exact⟨s11,l11⟩
      ·exact⟨s12,l12⟩
     ·simp only[eR1,e2];refine Wk.temps ?_
      (simp only[go_sem,qh,qc,qa,qg];try (repeat' first|(with_reducible apply aiA)|(apply qf;omega)|(apply qe;rfl)|exact qi))
    ·intro e hh hf;exact hf.elim
   ·have q7:(D<0)=False:=eqf g6;obtain⟨j,hj⟩: ∃j:Nat,D=j:=⟨D.toNat,om⟩
    have hjd:j<d.length:=by
     have:=(qcL x l d k d.length).2
     omega
    rw[hj]at eLs hD q7;have q8:(0≤(j:Int))=True:=eqt om;have q9:((j:Int)<d.length)=True:=eqt om;have s11': ∀m,qI (O11::m) 0=true:=fun _=>s11
    have e0:=hpl j hjd;have eU:qaq x l (d.getD j default)=k:=qma (n:=d.length) hD.symm;obtain⟨o,ho'⟩: ∃o,o=d.getD j default:=⟨_,rfl⟩
    have eo:=ho'.symm;rw[eo]at e0 eU;have hot:o.txt.length≤1000:=ht o (by rw[ho'];exact jo hjd);obtain⟨p1,p2,p3,p4,p5,p6⟩:=qbX e0;have c5:=fun h=>qES h
    have zp: ∀g l,valL g .len [qeW l]= .int .i64 l.length:=fun _ _=>rfl
    have zq: ∀g l,okL g .len [qeW l]=True:=fun _ _=>eqt trivial
    have k7:(0≤o.kind)=True:=eqt om;have k8:(o.kind<4)=True:=eqt om;obtain⟨_,_,a3,a4,_⟩:=qar hus hkl;obtain⟨fid,qs,eIx,c6,eqs,hpF2⟩: ∃(fid:Nat) (qs:List Pc),[AV.nilfn,AV.fn (.func 131) [] [],AV.fn (.func 133) [] [],AV.fn (.func 135) [] []][Int.toNat o.kind]?.getD AV.undef= .fn (.func fid) [] []∧(∀l',ACalls Tryz.prog fid [.agg [.str x.sec,strs x.sig,qm x.tok,qv x.col],.agg [.int .i64 (f:Int),.int .i64 (t':Int),RV],.agg [.int .i64 o.kind,.str o.sig,.int .i64 o.tok,.str o.txt]] (h++l') (qeW qs) (h++l'))∧qs=qoz x l k o∧ ∀p∈qs,PcF p:=by
     obtain⟨a1,a2,_⟩:=qar hus hkl;rcases (show o.kind=1∨o.kind=2∨o.kind=3 by omega)with g7|g7|g7
     ·obtain⟨S1,hS1⟩: ∃S1:Nat,zP x o.sig=S1:=⟨(zP x o.sig).toNat,by have:=(qhQ p4).1;omega⟩
      have hS1l:S1<x.sig.length:=by have:=(qhQ p4).2.1;omega
      refine⟨131,spk x S1 f (t'-f),by rw[g7];rfl,fun l'=> ?_,?_,qaD ho hS1l om⟩
      ·have c6:=qEP x (l.getD k default) o S1 f t' (h++l') hz ho hS1 hS1l (by rw[a1,b1]) (by rw[a2,b2]) om om;unfold coC unC dcC at c6;rw[a1,a2,←b1,←b2,←b3]at c6;exact c6
      ·unfold qoz;rw[ipo g7,hS1,itn,b1,b2]
     ·obtain⟨r1,r2,r3,r4⟩:=qk8 p6 g7;refine⟨133,cjP (qfQ o.txt) (f:Int),by rw[g7];rfl,fun l'=> ?_,?_,qsn r2⟩
      ·have c6:=qEQ x (l.getD k default) o (h++l') hot r4 r1 r2 hg.app;unfold coC unC dcC at c6;rw[a1,a2,←b1,←b2,←b3]at c6;exact c6
      ·unfold qoz cjP;rw[ine (by rw[g7];decide),ipo g7,a1,b1]
     ·refine⟨135,[],by rw[g7];rfl,fun l'=> ?_,?_,fun p hp=>by cases hp⟩
      ·have c6:=qER x (l.getD k default) o (h++l');unfold coC unC dcC at c6;rw[a1,a2,←b1,←b2,←b3]at c6;exact c6
      ·unfold qoz;rw[ine (by rw[g7];decide),ine (by rw[g7];decide)]
    simp (disch:=omega) only[q2,q4,q5,q6,q7,q8,q9,hlc,hll,eLs,zu,zv,qaz,dcC,eo,s11',go_sem]
    repeat' first
     |with_reducible apply aiA
    all_goals try exact clz
    refine ku ?Ta ?Ha ?h1 ?h2
    case h1=>
     simp (disch:=omega) only[go_sem]
     repeat' first
      |(refine cU (fun _=>c5 _) flk ?_;simp (disch:=omega) only[k7,go_sem])
      |with_reducible apply aiA
     all_goals first
      |omega
      |rfl
      |skip
     rw[eIx];refine qkO (c6 _) (by exact flk) ?_;simp (disch:=omega) only[zp,zq,go_sem]
     repeat' first
      |with_reducible apply aiA
     all_goals first
      |omega
      |rfl
      |skip
    case h2=>
    rw[←hP7,←hP8];obtain⟨P11,hP11⟩: ∃P11,P11=AObj.mem (qq (some O11)+1) 43 [.int .i64 o.kind,.str o.sig,.int .i64 o.tok,.str o.txt]:=⟨_,rfl⟩
    rw[←hP11];have eR1:rwK x l d S (k+1)=L1++rwM qs (k:Int) (j:Int):=by
     unfold rwK;rw[ipo om];show rwL x l d S k++(rwC x S (jf l k) (frN l k)++rwU x l d S k)=_;unfold rwU;rw[←hD,ine om,itn,eo,hL1,hL0,hps,eqs,b1,List.append_assoc];rfl
    have hLF2: ∀r∈L1,PcF r.p:=fun r hr=>by
     rw[hL1]at hr;rcases List.mem_append.1 hr with hr|hr
     ·exact hLF r hr
     ·exact hpF _ (j8.1 hr).1
    have hLn2:(L1++rwM qs (k:Int) (j:Int)).length≤1000000000:=by
     rw[←eR1];unfold rwK;rw[ipo om];exact Nat.le_trans (qnf (show k+1≤l.length by omega)) hN
    simp (disch:=omega) only[go_sem];have hqn:qs.length≤1000000000:=by rw[lap,jH]at hLn2;omega
    refine qt (T:=fun i:Nat×AObj=>qY 154 [(1,jc l),(2,qaz d),(3,.int .i64 (S:Int)),(4,.op h.length 1 0),(13,.osl (h.length+13) 1 1 0 l.length),(16,.op (h.length+3) 1 0),(17,.op (h.length+4) 1 0),(18,.int .i64 (t':Int)),(19,.op (h.length+7) (qq (some O7)+1) 0),(78,.osl (h.length+14) 2 3 0 (l.length+1)),(79,.int .i64 ((l.length+1:Nat):Int)),(80,.int .i64 (k:Int)),(111,qeW qs),(112,.int .i64 qs.length),(113,.int .i64 i.1)])
     (H:=fun i=>h++ [.mem 1 26 [.str x.sec,strs x.sig,qm x.tok,qv x.col],.emp 1,.emp 2,.mem 1 29 [.osl (h.length+15) (vb+ps.length+i.1) 7 0 (L1++rwM (qs.take i.1) (k:Int) (j:Int)).length],.mem 1 117 [.fn (.func 79) [] [.op (h.length+3) 1 0]],O5,.emp 0,P7,P8,A,O10,P11,i.2,.mem 1 3 (qT (qbs x l d d.length)),.mem 2 64 MC,qZ (vb+ps.length+i.1) 36 (jv (bsW (L1++rwM (qs.take i.1) (k:Int) (j:Int))))])
     (inv:=fun i=>i.1≤qs.length∧qI [i.2] 0=true∧ ∀n,lowO n i.2) (m:=fun i=>qs.length-i.1) (0,O12) ⟨nzl _,s12,l12⟩ ?_ ?_
    ·simp only[List.take_zero,rwM,List.map_nil,lan,Nat.add_zero];refine Wk.temps ?_
     (simp only[qaz,dcC,go_sem,qh,qc,qa,qg];try (repeat' first|(with_reducible apply aiA)|(apply qf;omega)|(apply qe;rfl)|exact qi))
    rintro⟨i,B⟩ ⟨j1,j2,j3⟩ K3 hK3;simp only at j1 j2 j3 hK3;have j2': ∀m,qI (B::m) 0=true:=fun _=>j2
    by_cases hi:i<qs.length
    ·have w1:((i:Int)<qs.length)=True:=eqt om;have w2:(0≤(i:Int))=True:=eqt om;have hS:L1++rwM (qs.take (i+1)) (k:Int) (j:Int)=(L1++rwM (qs.take i) (k:Int) (j:Int))++ [⟨qs.getD i default,(k:Int),(j:Int)⟩]:=by
      unfold rwM;rw[List.take_add_one,zH hi,List.map_append,gdqA,zH hi,List.append_assoc];rfl
     have hpm:qs.getD i default∈qs:=jo hi;obtain⟨p,hp'⟩: ∃p,p=qs.getD i default:=⟨_,rfl⟩
     have ep:=hp'.symm;rw[←hp']at hS hpm;obtain⟨M,hM⟩: ∃M,M=L1++rwM (qs.take i) (k:Int) (j:Int):=⟨_,rfl⟩
     have hMF: ∀r∈M,PcF r.p:=fun r hr=>by
      rw[hM]at hr;rcases List.mem_append.1 hr with hr|hr
      ·exact hLF2 r hr
      ·exact hpF2 _ (List.mem_of_mem_take (j8.1 hr).1)
     have hMn:M.length≤1000000000:=by
      rw[hM,lap,jH,List.length_take];rw[lap,jH]at hLn2;omega
     rw[←hM]at hS ⊢;simp (disch:=omega) only[qeW,pcC,tkC,w1,w2,ep,j2',cP7,q2,q5,q6,eLs,hlc,hll,go_sem]
     repeat' first
      |with_reducible apply aiA
     all_goals try exact clz
     refine kq (qwf (a:=h.length+3) (b:=h.length+15) (c:=h.length) (va:=1) (vb:=vb+ps.length+i) (Z:= .mem 1 26 [.str x.sec,strs x.sig,qm x.tok,qv x.col]) ⟨by simp,by simp,by simp,om,om,om⟩ M p (k:Int) (j:Int) (by simp only[go_sem]) (by simp only[go_sem]) (by simp only[go_sem]) (by rw[←hX0];exact lX0) (hpF2 p hpm) hMn hMF) ?_;simp (disch:=omega) only[go_sem];refine hK3 _ _ (i+1,.mem (qq (some B)+1) 115 (pcC p)) ⟨hi,rfl,fun n c hc=> ?_⟩ (by simp only;omega) ?_
     ·simp[pcC,tkC]at hc;rcases hc with rfl|rfl|rfl|rfl|rfl|rfl|rfl<;>rfl
     ·simp only[hS,pcC,tkC,lap,lco,lnl,lca,lna,Nat.zero_add];refine Wk.temps ?_
      (simp only[qaz,dcC,go_sem,qh,qc,qa,qg];try (repeat' first|(with_reducible apply aiA)|(apply qf;omega)|(apply qe;rfl)|exact qi))
    ·have w1:((i:Int)<qs.length)=False:=eqf om;obtain rfl:i=qs.length:=by omega
     rw[List.take_length];simp (disch:=omega) only[w1,go_sem];have e2:nxT x l (k+1)=t':=by
      unfold nxT;rw[ipo om,b2];unfold jf;rw[ine om,Nat.add_sub_cancel]
     refine hK _ _ ⟨k+1,vb+ps.length+qs.length,P7,P8,A,O10,P11,B⟩ ⟨by simp only;omega,fun O hO=> ?_⟩ (by simp only;omega) ?_
     ·simp only[List.mem_cons,List.not_mem_nil,or_false]at hO;rcases hO with rfl|rfl|rfl|rfl|rfl|rfl
      ·exact hP7l
      ·exact hP8l
      ·exact⟨sA,lA⟩
      ·exact⟨s10,l10⟩
      ·rw[hP11];refine⟨rfl,fun n c hc=> ?_⟩;simp at hc;rcases hc with rfl|rfl|rfl|rfl<;>rfl
      ·exact⟨j2,j3⟩
     ·simp only[eR1,e2];refine Wk.temps ?_
      (simp only[go_sem,qh,qc,qa,qg];try (repeat' first|(with_reducible apply aiA)|(apply qf;omega)|(apply qe;rfl)|exact qi))
  ·intro e hh hf;exact hf.elim
def txG(p:Int→Bool)(b:List Wd):Nat→List Str
 |0=> []
 |i+1=>txG p b i++if p (b.getD i default).unit=true then [(b.getD i default).text] else []
def rwT(r:Rw):Str:=r.p.t.text
theorem qAI(p:Int→Bool)(L:List Rw): ∀n,n≤L.length→txG p (bsW L) n=((L.take n).filter fun r=>p r.u).map rwT:=by
 intro n
 induction n with
 |zero=>intro _;rfl
 |succ n ih=>
  intro hn;unfold txG;rw[ih om,List.take_add_one,zH hn,Option.toList_some,List.filter_append,List.map_append,qrM hn];congr 1;have e:L.getD n default=L[n]:=by rw[gdqA,zH hn];rfl
  rw[e];show (if p L[n].u=true then [L[n].p.t.text] else [])=_;cases g:p L[n].u with
  |true=>rw[ipo rfl,List.filter_cons_of_pos (by rw[g])];rfl
  |false=>rw[ine (by simp),List.filter_cons_of_neg (by rw[g];simp)];rfl
theorem qvC(p:Int→Bool)(L:List Rw):txG p (bsW L) (bsW L).length=(L.filter fun r=>p r.u).map rwT:=by
 rw[qad,qAI p L _ (nlr _),List.take_length]
theorem qlu{L:List Rw}{p:Rw→Bool}(h: ∀r∈L,p r=false):L.filter p= []:=List.filter_eq_nil_iff.2 fun r hr=>by rw[h r hr];simp
def cmL(x:Co)(l:List Un)(s:Nat):Nat→List Str
 |0=> []
 |c+1=>cmL x l s c++if fnU l (c:Int)<0 then [(clT x c s).getD []] else []
theorem qvj{x:Co}{l:List Un}{d:List Dc}{s:Nat}(h:qh4 x l d s){c:Nat}(hc:c<x.col.length):((rwc x l d s c).filter fun r=>decide (r.u<0)).map rwT=if fnU l (c:Int)<0 then [(clT x c s).getD []] else []:=by
 unfold rwc;split
 ·rename_i g;obtain⟨h1,_,h3⟩:=qhb h.cv h.co h.sl hc g;unfold pcB at h1;have h1:=of_decide_eq_true h1;unfold clT;rw[ine om];rfl
 ·rename_i g;split
  ·have:=qgh l (c:Int)
   rw[qlu (fun r hr=>dqf (by have:=(qAm h (show (fnU l (c:Int)).toNat<l.length by omega) hr).u;omega))];rfl
  ·rfl
theorem qxK{x:Co}{l:List Un}{d:List Dc}{s:Nat}(h:qh4 x l d s):txG (fun u=>decide (u<0)) (bsW (rwA x l d s)) (bsW (rwA x l d s)).length=cmL x l s x.col.length:=by
 rw[qvC,←qvg d h.us h.cv h.co h.sl];have key: ∀n,n≤x.col.length→((rwS x l d s n).filter fun r=>decide (r.u<0)).map rwT=cmL x l s n:=by
  intro n
  induction n with
  |zero=>intro _;rfl
  |succ n ih=>
   intro hn;show ((rwS x l d s n++rwc x l d s n).filter _).map rwT=_;rw[List.filter_append,List.map_append,ih om,qvj h om];rfl
 exact key _ (nlr _)
theorem qxI{x:Co}{l:List Un}(hc:cvA x l=true)(ho:CoOk x){s t:Nat}(hs:s<x.sig.length)(ht:t<x.sig.length): ∀n,n≤x.col.length→cmL x l s n=cmL x l t n:=by
 intro n
 induction n with
 |zero=>intro _;rfl
 |succ n ih=>
  intro hn;unfold cmL;rw[ih om];congr 1;split
  ·rename_i g;obtain⟨_,h2,_⟩:=qhb hc ho hs (show n<x.col.length by omega) g;obtain⟨_,h3,_⟩:=qhb hc ho ht (show n<x.col.length by omega) g;rw[h2,h3]
  ·rfl
def unF(x:Co)(r:Nat×Nat):Un:=⟨(r.1:Int),(r.2:Int),qeX x r.1 r.2⟩
def rnL(x:Co):List (Nat×Nat):=qd0 (cmB x) x.col.length
def qjJ(x:Co):List Un:=(rnL x).map (unF x)
theorem qqS(p:Nat→Bool)(n:Nat): ∀d f,(kJ p n d f).Pairwise fun a b=>a.2<b.1:=by
 intro d
 induction d with
 |zero=>intro f;exact List.Pairwise.nil
 |succ d ih=>
  intro f;unfold kJ;split
  ·exact List.Pairwise.nil
  ·rw[List.pairwise_append];refine⟨?_,ih _,fun a ha b hb=> ?_⟩
   ·split
    ·exact List.pairwise_singleton _ _
    ·exact List.Pairwise.nil
   ·split at ha
    ·rw[List.mem_singleton]at ha;subst ha
     have:=((qex p n d (nxt p (n-f) f+1)).1 b hb).1
     show nxt p (n-f) f<b.1;omega
    ·cases ha
theorem qhY(x:Co):(qjJ x).length=(rnL x).length:=by unfold qjJ;rw[List.length_map]
theorem qgQ{x:Co}{k:Nat}(hk:k<(rnL x).length):(qjJ x).getD k default=unF x (rnL x)[k]:=by
 unfold qjJ;rw[gdqA,List.getElem?_map,zH hk];rfl
theorem qsr{x:Co}{k:Nat}(hk:k<(rnL x).length):(rnL x)[k].1<(rnL x)[k].2∧(rnL x)[k].2≤x.col.length∧ ∀c,(rnL x)[k].1≤c→c<(rnL x)[k].2→cmB x c=false:=qnd (List.getElem_mem hk)
theorem qn0(x:Co):qcA x (qjJ x)=true:=by
 unfold qcA;rw[Bool.not_eq_true',qp];intro k hk;rw[qhY]at hk;rw[Bool.not_eq_false'];obtain⟨h1,h2,_⟩:=qsr hk;refine qnX.2 ?_;rw[qgQ hk];have hb:beH (qjJ x) k<((rnL x)[k].1:Int):=by
  unfold beH;split
  ·omega
  ·rename_i h0;rw[qgQ (show k-1<(rnL x).length by omega)]
   have:=List.pairwise_iff_getElem.1 (qqS (cmB x) x.col.length (x.col.length+1) 0) (k-1) k (by show _<(rnL x).length;omega) hk om
   show ((rnL x)[k-1].2:Int)<_;have this:(rnL x)[k-1].2<(rnL x)[k].1:=this;omega
 refine⟨hb,?_,?_,?_,?_⟩
 ·show (0:Int)≤((rnL x)[k].1:Nat);omega
 ·show ((rnL x)[k].1:Int)<((rnL x)[k].2:Nat);omega
 ·show ((rnL x)[k].2:Int)≤_;omega
 ·show qeX x (rnL x)[k].1 (rnL x)[k].2=qeX x (((rnL x)[k].1:Nat):Int).toNat (((rnL x)[k].2:Nat):Int).toNat;rw[itn,itn]
theorem qpT{d:List Dc}{j:Nat}(ht: ∀o∈d,o.txt.length≤1000):(d.getD j default).txt.length≤1000:=by
 by_cases hj:j<d.length
 ·exact ht _ (jo hj)
 ·rw[gdqA,List.getElem?_eq_none om];exact nzl _
theorem qvi{x:Co}{l:List Un}{d:List Dc}{s k:Nat}(ht: ∀o∈d,o.txt.length≤1000):(rwU x l d s k).length≤(toN l k-frN l k)+1000:=by
 unfold rwU;split
 ·rw[jH]
  have:=qeG x s (frN l k) (toN l k-frN l k)
  omega
 ·rw[jH];unfold qoz;split
  ·have:=qeG x (zP x (d.getD (qcu x l d k d.length).toNat default).sig).toNat (frN l k) (toN l k-frN l k)
   omega
  ·split
   ·rw[List.length_map];have h1:=qeK (d.getD (qcu x l d k d.length).toNat default).txt;have h2:=qpT (j:=(qcu x l d k d.length).toNat) ht;omega
   ·exact nzl _
theorem qnh(x:Co)(s f t:Nat):(rwC x s f t).length≤t-f:=by
 unfold rwC;rw[jH];exact qeG x s f _
theorem qni{x:Co}{l:List Un}{d:List Dc}{s:Nat}(h:qcA x l=true)(ht: ∀o∈d,o.txt.length≤1000): ∀k,k≤l.length→(rwL x l d s k).length≤jf l k+1000*k∧k≤jf l k:=by
 intro k
 induction k with
 |zero=>intro _;exact⟨nzl _,nzl _⟩
 |succ k ih=>
  intro hk;obtain⟨i1,i2⟩:=ih om;have hp:=qhv h (show k<l.length by omega);obtain⟨_,_,a3,a4,_⟩:=qar h (show k<l.length by omega);have u:=qvi (x:=x) (l:=l) (s:=s) (k:=k) ht;have c:=qnh x s (jf l k) (frN l k);rw[qhw];refine⟨?_,om⟩;show (rwL x l d s k++(rwC x s (jf l k) (frN l k)++rwU x l d s k)).length≤_;rw[lap,lap];omega
theorem qvf{x:Co}{l:List Un}{d:List Dc}{s:Nat}(h:qcA x l=true)(ht: ∀o∈d,o.txt.length≤1000):(rwA x l d s).length≤1001*x.col.length:=by
 obtain⟨h1,h2⟩:=qni (d:=d) (s:=s) h ht l.length (nlr _);have hp:=qet h (nlr l.length);have c:=qnh x s (jf l l.length) x.col.length;unfold rwA;rw[lap];omega
theorem qng{x:Co}{l:List Un}{d:List Dc}{s:Nat}(hc:x.col.length≤10000)(ht: ∀o∈d,o.txt.length≤1000)(h:vaE x l=0):(rwA x l d s).length≤1000000000:=by
 have:=qvf (d:=d) (s:=s) (qfT h).2.1 ht
 omega
end RC
end
section
open Go Go.Proofs AF
def que:List Nat:= []
def qBO:C:=
 ((C.ops [O1 1 (.box 0 26) 0,ON 2 (.nilo 1 3 64) [],MC 3 (i6 0)]).seq (((C.ops [O1 7 (.load (some 4)) 1,O1 8 (.call 67 true) 7,BC 9 .neq 8 (i6 0)]).seq (C.cond (.t 9) ((C.ops
 [ON 2 (.nilo 1 3 64) [],MC 3 (i6 1)]).seq C.ret) C.skip)).seq ((C.ops [⟨some 4,none,.alloc 2 28 [.nl],[]⟩]).seq (((C.wk.seq (C.ops [O1 10 (.load (some 4)) 1,O1 11 (.call 88
 true) 10])).seq (C.block 0 (C.range (.t 11) [12,13] ((C.ops [MV 5 12]).seq (C.ops [MV 6 13])) (C.block 1 (C.draw (DT.one ⟨some 15,none,.mv,[.t 5]⟩ (DT.one ⟨some 16,none,.mv,
 [.t 6]⟩ (DT.one ⟨some 17,none,.load (some 4),[.t 1]⟩ (DT.one ⟨some 18,none,.mv,[.t 5]⟩ (DT.one ⟨some 19,none,.mv,[.t 6]⟩ (DT.uni ⟨some 20,none,.call 89 true,[.t 17,.t
 18,.t 19]⟩ (DT.one ⟨some 21,none,.build [i6 0,i6 0,.nl] [(0,1),(1,1),(2,1)],[.t 15,.t 16,.t 20]⟩ ((DT.one ⟨some 14,none,.load none,[.t 4]⟩ (DT.one ⟨some 22,none,
 .bslc 3 3 1 64 [i6 0,i6 0,.nl] [(0,3)],[.t 21]⟩ (DT.one ⟨some 23,none,.app 4 3 64 40,[.t 14,.t 22]⟩ (DT.one ⟨none,none,.store 1,[.t 4,.t 23]⟩ DT.nil)))).two (DT.one
 ⟨some 22,none,.bslc 3 3 1 64 [i6 0,i6 0,.nl] [(0,3)],[.t 21]⟩ (DT.one ⟨some 14,none,.load none,[.t 4]⟩ (DT.one ⟨some 23,none,.app 4 3 64 40,[.t 14,.t 22]⟩ (DT.one
 ⟨none,none,.store 1,[.t 4,.t 23]⟩ DT.nil))))))))))))))))).seq ((C.ops [LD 24 4,MV 2 24,MC 3 (i6 0)]).seq
 C.ret)))))
theorem qze:qL Tryz.prog 31 25 5 [RV.tmp 2,RV.tmp 3] qBO:=fi Tryz.f31 [1,2,4,22,23] que [4]
end
section
open Go Go.Proofs AF HY LN
namespace RC
def utE(x:Co):Int:=if coE x=0 then 0 else 1
def utR(x:Co):List Un:=if coE x=0 then qjJ x else []
theorem qq2{v n:Nat}{L:List Un}{ty:TypeId}{fz:Nat→Bool}{h:List AObj}{d:Nat}(hn:n=L.length):VLe (qhH (some (qZ v ty (qaS L))) v 3 0 n (rei fz h (d+1))) (jc L):=by
 subst hn;unfold qZ;split
 ·rename_i e
  have:L= []:=by
   cases L with
   |nil=>rfl
   |cons a r=>exact absurd e (by simp[qaS,unC])
  subst this;rw[slOf_emp,ipo rfl];exact zg
 ·rw[slOf_mem,ipo ⟨rfl,by rw[qcR];omega⟩];refine VLe.sl_eq rfl (fun i hi=> ?_);simp only[Nat.zero_add];rw[qhX hi];rfl
theorem qDg(x:Co)(h:List AObj)(hz:qdA x)(hp:kR SG h):ACalls Tryz.prog 31 [.agg (coC x)] h (.tup [jc (utR x),.int .i64 (utE x)]) h:=by
 have c1:=fun l'=>coP x (h++l') hz (hp.app l')
 unfold utE utR
 by_cases g:coE x=0
 case neg=>
  have k1:(coE x=0)=False:=eqf g;rw[ine g,ine g];obtain⟨e,he⟩: ∃e,e=coE x:=⟨_,rfl⟩
  rw[←he]at c1 k1;unfold coC at c1;refine acO qze ?_;simp (disch:=omega) only[qBO,coC,go_sem]
  repeat' first
   |(refine cA (c1 _) flk ?_;simp (disch:=omega) only[k1,go_sem])
   |(apply qb;exact rvk;simp only[go_sem])
  exact VLe.tup ⟨zg,qi,trivial⟩
 rw[ipo g,ipo g];simp only[g]at c1;have ho:=qbh g;have hn:=hz.cl;have c2:=fun h=>qD6 x h
 have lx: ∀n v ty,lowO n (.mem v ty (coC x)):=fun n v ty=>qup x n v ty
 unfold coC at c1 c2;refine acO qze ?_;simp (disch:=omega) only[qBO,coC,go_sem]
 repeat' first
  |(refine cA (c1 _) flk ?_;simp (disch:=omega) only[go_sem])
 refine⟨_,_,Wk.ownNil (j:=h.length+2) (i:=0) (k:=h.length+4) (v:=1) (ty:=28) (cs:= [.nl]) (ve:=0) (sz:=3) ?m1 rfl ?m2,?_⟩
 case m1=>simp only[go_sem]
 case m2=>simp only[go_sem]
 simp (disch:=omega) only[List.set_cons_zero,go_sem]
 repeat' first
  |(refine cA (c2 _) flk ?_;simp (disch:=omega) only[go_sem])
 have hrl:=qgs x;have hrg:=fun i hi=>qm7 (x:=x) (i:=i) hi
 have hul:(qjJ x).length=(qd0 (cmB x) x.col.length).length:=qhY x;have hue:=fun i (hi:i<(qd0 (cmB x) x.col.length).length)=>qgQ (x:=x) (k:=i) hi
 have hin:=fun i (hi:i<(qd0 (cmB x) x.col.length).length)=>qsr (x:=x) (k:=i) hi
 have hle:(qjJ x).length≤1000000000:=by
  have h1:=qni (s:=0) (qn0 x) (d:= []) (by simp) (qjJ x).length (nlr _);have h2:=qet (qn0 x) (nlr (qjJ x).length);omega
 unfold rnL at hue hin;obtain⟨rs,hrs⟩: ∃rs,rs=qd0 (cmB x) x.col.length:=⟨_,rfl⟩
 simp only[←hrs]at hrl hrg hul hue hin;obtain⟨L,hL⟩: ∃L,L=qjJ x:=⟨_,rfl⟩
 simp only[←hL]at hul hue hle ⊢;obtain⟨X0,hX0⟩: ∃X0,X0=AObj.mem 1 26 [.str x.sec,strs x.sig,qm x.tok,qv x.col]:=⟨_,rfl⟩
 refine zk (xs:=rnX x) (itR x ho hn) (qm8 x)
  (S:=fun i hh=> ∃w O1,qI [O1] 0=true∧(∀n,lowO n O1)∧hh=h++ [.mem 1 26 (coC x),.emp 1,.mem 1 28 [.osl (h.length+4) w 3 0 i],O1,qZ w 64 (qaS (L.take i))])
  (E:=fun _ _=>False) ?e1 (fun _ _ h=>h.elim) ?e2 ?e3 ?e4 ?e5 (fun _ _ h=>h.elim)
 case e1=>
  rintro i hh ⟨w,O1,_,l1,rfl⟩;refine LowI.app rfl (fun o ho=> ?_);simp only[List.mem_cons,List.not_mem_nil,or_false]at ho;rcases ho with rfl|rfl|rfl|rfl|rfl
  ·left;simp[coC]
  ·left;simp
  ·right;constructor<;>(intro c hc;simp only[List.mem_cons,List.not_mem_nil,or_false]at hc;rcases hc with rfl;simp[qU])
  ·right;exact⟨l1 _,l1 _⟩
  ·right;exact⟨jp (qeL _ _),jp (qeL _ _)⟩
 case e2=>exact⟨0,.emp 0,rfl,fun _=>trivial,rfl⟩
 case e3=>
  have lt: ∀n,qU n (qm x.tok)=true:=fun _=>rfl
  have lc: ∀n,qU n (qv x.col)=true:=fun _=>rfl
  simp[qU,qU.lowVs,lt,lc,qho]
  try omega
 case e4=>
  rintro i hh tl LI TS hi ⟨w,O1,p1,l1,rfl⟩ hlen K4 K5 hK4 hN hR' hX;rw[hrg i hi];rw[hrl]at hi;have e5:=hue i hi;obtain⟨f1,f2,_⟩:=hin i hi;have e6:rs.getD i (0,0)=rs[i]:=by rw[gdqA,zH hi];rfl
  rw[e6];have p1': ∀m,qI (O1::m) 0=true:=fun _=>p1
  have hTk:L.take (i+1)=L.take i++ [L.getD i default]:=by
   rw[List.take_add_one,zH om,gdqA,zH om];rfl
  rw[e5]at hTk;have hTl:(L.take i).length=i:=by rw[List.length_take];omega
  have eVl:=qcR (L.take i);rw[hTl]at eVl;have eVk:List.take (i*3) (qaS (L.take i))=qaS (L.take i):=ltl om;obtain⟨⟨f,t⟩,hr⟩: ∃r,r=rs[i]:=⟨_,rfl⟩
  rw[←hr]at hTk f1 f2 ⊢;have eVn:qaS (L.take (i+1))=qaS (L.take i)++ [.int .i64 (f:Int),.int .i64 (t:Int),jQ (qeX x f t)]:=by rw[hTk,qrp,qrq];rfl
  have c48:=fun h=>qD5 x f t h ho f2 hn
  unfold coC at c48;have zr: ∀X,(jQ X).cells= [jQ X]:=fun _=>rfl
  have zm:List.drop 3 (ze [AV.int .i64 0,.int .i64 0,.nl] 1)= []:=rfl;have hi9:((i:Int)+1)*24≤140737488355328:=by omega
  simp only[kF];simp (disch:=omega) only[List.append_assoc,coC,go_sem];refine hK4 _ _ (h++ [.mem 1 26 (coC x),.emp 1,.mem 1 28 [.osl (h.length+4) w 3 0 i],O1,qZ w 64 (qaS (L.take i))]) (by simp[coC]) (by simp) ?_;simp (disch:=omega) only[List.append_assoc,coC,go_sem];refine ku ?T ?H ?h1 ?h2
  case h1=>
   simp (disch:=omega) only[go_sem]
   repeat' first
    |(refine cU (fun _=>c48 _) flk ?_;simp (disch:=omega) only[p1',eVl,eVk,List.set_cons_zero,zr,zm,go_sem])
    |with_reducible apply aiA
   all_goals first
    |omega
    |rfl
    |(rw[bne_iff_ne];omega)
    |skip
  case h2=>
  simp (disch:=omega) only[go_sem];refine hN _ _ (h++ [.mem 1 26 (coC x),.emp 1,.mem 1 28 [.osl (h.length+4) (w+1) 3 0 (i+1)],.mem (qq (some O1)+1) 64 [.int .i64 (f:Int),.int .i64 (t:Int),jQ (qeX x f t)],qZ (w+1) 64 (qaS (L.take (i+1)))]) (by rw[eVn];simp[coC]) (by simp)
   ⟨w+1,_,rfl,?lw,rfl⟩
  case lw=>
  intro n c hc;simp only[List.mem_cons,List.not_mem_nil,or_false]at hc;rcases hc with rfl|rfl|rfl<;>rfl
 case e5=>
  rintro hh ⟨w,O1,p1,l1,rfl⟩;rw[hrl,←hul,List.take_length];simp (disch:=omega) only[go_sem]
  repeat' first
   |(apply qb;exact rvk;simp only[go_sem])
   |with_reducible apply aiA
  all_goals try exact clz
  exact VLe.tup ⟨qq2 rfl,qi,trivial⟩
end RC
end
section
open Go Go.Proofs AF
end
section
open Go Go.Proofs AF HY LN
namespace RC
end RC
end
section
namespace Go.Proofs
open Go.Shelf
end Go.Proofs
end
section
open Go Go.Proofs AF HY LN
namespace RC
end RC
end
section
open Go Go.Proofs AF
end
section
open Go Go.Proofs AF HY LN
namespace RC
end RC
end
section
open Go Go.Proofs AF
def qua:List Nat:= []
def qDD:C:=
 ((C.ops [MC 2 (.bool false)]).seq (((C.ops [MC 3 (i6 0)]).seq (C.block 0 (((C.ops [MV 4 3,MV 5 0,O1 6 .len 5,BI 7 .lss 4 6]).seq (C.cond (.t 7) C.skip (C.exit 0))).seq ((C.block
 1 ((C.ops [MV 10 0,MV 11 3,O2 12 (.idxA 4) 10 11,O1 13 (.fldA 1) 12,LD 14 13,O1 15 .slen 14,BC 16 .gtr 15 (i6 30),MV 17 16,MG 18 17 false 0,MG 19 17 false 3,P2 20 17
 false (.idxA 4) 18 19,P1 21 17 false (.fldA 3) 20,P1 22 17 false (.load none) 21,P1 23 17 false .slen 22,PC 24 17 false (.bin .gtr) 23 (i6 30),PT 25 17 24]).seq (C.cond (.t
 25) ((C.ops [MC 2 (.bool true)]).seq C.ret) C.skip))).seq (C.ops [MV 8 3,BC 9 .add 8 (i6 1),MV 3 9]))).loop)).seq ((C.ops [MV 26 0,O1 27 .len 26,BC 28 .gtr 27 (i6 6),MV 2
 28]).seq
 C.ret)))
theorem qCn:qL Tryz.prog 23 29 0 [RV.tmp 2] qDD:=fi Tryz.f23 [] qua []
end
section
open Go Go.Proofs AF HY LN
namespace RC
def gDc(d:List Dc)(i:Nat):Bool:=decide (30<(d.getD i default).sig.length)||decide (30<(d.getD i default).txt.length)
def qt5(d:List Dc):Bool:=jq (gDc d) d.length||decide (6<d.length)
theorem qCJ(b:List Dc)(h:List AObj)(hn:b.length≤9223372036854775807):ACalls Tryz.prog 23 [qaz b] h (.bool (qt5 b)) h:=by
 obtain⟨R,hR⟩: ∃R,R=qt5 b:=⟨_,rfl⟩
 rw[←hR];unfold qt5 at hR;have zb:qaz b= .sl b.length fun i=>dcC (b.getD i default):=rfl
 refine acO qCn ?_;simp (disch:=omega) only[qDD,go_sem];refine qt (T:=fun i:Nat=>qY 29 [(0,qaz b),(3,.int .i64 i)]) (H:=fun _=>h) (inv:=fun i=>i≤b.length∧ ∀j,j<i→gDc b j=false) (m:=fun i=>b.length-i) 0 ⟨nzl _,fun j hj=>absurd hj (nnz j)⟩ (Wk.temps ?_) ?_
 ·(simp only[go_sem,qh,qc,qa,qg];try (repeat' first|(with_reducible apply aiA)|(apply qf;omega)|(apply qe;rfl)|exact qi))
 rintro i ⟨i1,i2⟩ K hK
 by_cases hi:i<b.length
 ·have k1:((i:Int)<b.length)=True:=eqt om;have k0:(0≤(i:Int))=True:=eqt om;have hit:gDc b i=true→R=true:=fun hc=>by rw[hR,qO.2 ⟨i,hi,hc⟩];rfl
  have i3:=fun hc=>kh (p:=gDc b) i2 hc
  have hG:gDc b i=(decide (30<(b.getD i default).sig.length)||decide (30<(b.getD i default).txt.length)):=rfl;obtain⟨w,hw⟩: ∃w,w=b.getD i default:=⟨_,rfl⟩
  have ew:=hw.symm;rw[ew]at hG
  by_cases g1:30<w.sig.length
  ·have q1:((30:Int)<w.sig.length)=True:=eqt om;rw[hit (by rw[hG,dqt g1];rfl)];simp (disch:=omega) only[zb,dcC,k0,k1,ew,q1,go_sem]
   repeat' first
    |(apply qd;exact rvk;simp only[go_sem];exact qi)
  have q1:((30:Int)<w.sig.length)=False:=eqf om
  by_cases g2:30<w.txt.length
  ·have q2:((30:Int)<w.txt.length)=True:=eqt om;rw[hit (by rw[hG,dqt g2,Bool.or_true])];simp (disch:=omega) only[zb,dcC,k0,k1,ew,q1,q2,go_sem]
   repeat' first
    |(apply qd;exact rvk;simp only[go_sem];exact qi)
    |with_reducible apply aiA
   all_goals try exact clz
  have q2:((30:Int)<w.txt.length)=False:=eqf om;simp (disch:=omega) only[zb,dcC,k0,k1,ew,q1,q2,go_sem]
  repeat' first
   |with_reducible apply aiA
  all_goals try exact clz
  refine hK _ _ (i+1) ⟨hi,i3 (by rw[hG,dqf g1,dqf g2];rfl)⟩ om (Wk.temps ?_)
  (simp only[zb,dcC,go_sem,qh,qc,qa,qg];try (repeat' first|(with_reducible apply aiA)|(apply qf;omega)|(apply qe;rfl)|exact qi))
 obtain rfl:i=b.length:=by omega
 have k1:((b.length:Int)<b.length)=False:=eqf om;rw[qp.2 (fun j hj=>i2 j hj),Bool.false_or]at hR
 by_cases g:6<b.length
 ·have q:((6:Int)<b.length)=True:=eqt om;rw[dqt g]at hR;rw[hR];simp (disch:=omega) only[zb,k1,q,go_sem]
  repeat' first
   |(apply qd;exact rvk;simp only[go_sem];exact qi)
 ·have q:((6:Int)<b.length)=False:=eqf om;rw[dqf g]at hR;rw[hR];simp (disch:=omega) only[zb,k1,q,go_sem]
  repeat' first
   |(apply qd;exact rvk;simp only[go_sem];exact qi)
theorem qt6{d:List Dc}(h:qt5 d=false):d.length≤6∧(∀j,(d.getD j default).sig.length≤30)∧ ∀o∈d,o.txt.length≤30:=by
 unfold qt5 at h;rw[Bool.or_eq_false_iff,decide_eq_false_iff_not]at h;have key: ∀i,i<d.length→ ¬30<(d.getD i default).sig.length∧ ¬30<(d.getD i default).txt.length:=fun i hi=>by
  have:=qp.1 h.1 i hi
  unfold gDc at this;rw[Bool.or_eq_false_iff,decide_eq_false_iff_not,decide_eq_false_iff_not]at this;exact this
 refine⟨om,jC d (fun d=>d.sig.length≤30) (by decide) fun i hi=>by have:=(key i hi).1;omega,fun o ho=> ?_⟩;obtain⟨i,hi,rfl⟩:=List.getElem_of_mem ho
 have:=(key i hi).2
 rw[gdqA,zH hi]at this;simp only[Option.getD_some]at this;omega
structure Cq where
 x:Co
 l:List Un
 d:List Dc
 lead:Int
def cqC(a:Cq):List AV:= [.str a.x.sec,strs a.x.sig,qm a.x.tok,qv a.x.col,jc a.l,qaz a.d,.int .i64 a.lead]
structure CqB (a:Cq):Prop where
 x:CoB a.x
 l:UnB a.l
 d:a.d.length≤9223372036854775807
def qt4(a:Cq):Bool:=qt2 a.x||(qt3 a.l||qt5 a.d)
structure CqS (a:Cq):Prop where
 x:qdA a.x
 l:qjE a.l
 cl:a.x.col.length≤24
 sl:a.x.sig.length≤36
 ll:a.l.length≤12
 d:a.d.length≤6
 g: ∀j,(a.d.getD j default).sig.length≤30
 t: ∀o∈a.d,o.txt.length≤30
theorem qsd{a:Cq}(h:qt4 a=false):CqS a:=by
 unfold qt4 at h;rw[Bool.or_eq_false_iff,Bool.or_eq_false_iff]at h;obtain⟨h1,h2,h3⟩:=h;obtain⟨o1,o2,o3⟩:=qsb h1;obtain⟨u1,u2⟩:=qsc h2;obtain⟨d1,d2,d3⟩:=qt6 h3;exact⟨o1,u1,o2,o3,u2,d1,d2,d3⟩
theorem CqS.lim{a:Cq}(h:CqS a)(s:Nat)(g:vaE a.x a.l=0):(rwA a.x a.l a.d s).length≤1000000000:=
 qng (by have:=h.cl;omega) (fun o ho=>by have:=h.t o ho;omega) g
end RC
end
