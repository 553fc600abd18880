/-
  Contracts and plain laws of this seat, part 49.
-/
import Derived.Test.YtebippoohpnjkaaGreatE46
import Derived.Test.YtebippoohpnjkaaGreatE39
set_option linter.unusedVariables false
set_option linter.unusedSimpArgs false
set_option maxRecDepth 100000
set_option maxHeartbeats 16000000
namespace Go.Proofs.YtebippoohpnjkaaGreat
open Go.RowKit Go
theorem yz{w:World}{B:Nat}:aJ w B none []:=⟨ai.nil,fun x hx=>by simp at hx⟩
theorem Db(A:Option Addr)(c m:Nat)(oo:Oth)(RA:Option Addr)(rc n:Nat)(kd sq dy tb:Int)(A0:Option Addr)(cp:Nat)(row:List Val)(key:Val)(cl:Int)(vl:Val)(w:World)(hx:uO w w.heap.size A c m oo):
 Calls Tryz.prog 69 #[.agg #[.slice A m c,.slice oo.vA 0 oo.vc,.slice oo.iA oo.idx.length oo.ic,.slice oo.sA oo.skt.length oo.sc,.slice oo.cA oo.cch.length oo.cc,.slice oo.rA oo.rel.length oo.rc,.slice oo.tA oo.str.length oo.tc,.slice oo.bA oo.bak.length oo.bc],.slice RA n rc,.agg #[.int .i64 kd,.int .i64 sq,.int .i64 dy,.int .i64 tb,.slice A0 row.length cp,.int .i64 key.kind,.int .i64 key.num,.string key.text,.int .i64 cl,.int .i64 vl.kind,.int .i64 vl.num,.string vl.text]] w fun e w'=>e=.returned (.int .i64 1)∧Below w.heap.size w w':=by
 have HX:=qh hx
 clear hx
 go_enter_defers Tryz.func69,Tryz.ntmps69
 go_wp2_with (go_at_call 48;(with_reducible refine(HX.out.prog _ ak).mono ?_);rintro e w1 ⟨rfl,hb1⟩;have hx1:Below w.heap.size w w1:=ae ak hb1 leA)
 refine leaves_cons (f:= 117) (args:= #[]) spA (by simp[go_sem]) ?_;refine(lM _).mono ?_;rintro e u' w'' ⟨rfl,rfl,rfl⟩;refine⟨_,results_tmp rfl _ _ _,?_⟩
 exact⟨rfl,hx1⟩
theorem De(A:Option Addr)(c m:Nat)(oo:Oth)(RA:Option Addr)(rc n:Nat)(kd sq dy tb:Int)(A0:Option Addr)(cp:Nat)(row:List Val)(key:Val)(cl:Int)(vl:Val)(w:World)(hx:uO w w.heap.size A c m oo):
 Calls Tryz.prog 72 #[.agg #[.slice A m c,.slice oo.vA 0 oo.vc,.slice oo.iA oo.idx.length oo.ic,.slice oo.sA oo.skt.length oo.sc,.slice oo.cA oo.cch.length oo.cc,.slice oo.rA oo.rel.length oo.rc,.slice oo.tA oo.str.length oo.tc,.slice oo.bA oo.bak.length oo.bc],.slice RA n rc,.agg #[.int .i64 kd,.int .i64 sq,.int .i64 dy,.int .i64 tb,.slice A0 row.length cp,.int .i64 key.kind,.int .i64 key.num,.string key.text,.int .i64 cl,.int .i64 vl.kind,.int .i64 vl.num,.string vl.text]] w fun e w'=>e=.returned (.tuple #[.slice none 0 0,.int .i64 1])∧Below w.heap.size w w':=by
 have HX:=qh hx
 clear hx
 go_enter_defers Tryz.func72,Tryz.ntmps72
 go_wp2_with (go_at_call 48;(with_reducible refine(HX.out.prog _ ak).mono ?_);rintro e w1 ⟨rfl,hb1⟩;have hx1:Below w.heap.size w w1:=ae ak hb1 leA)
 refine leaves_cons (f:= 122) (args:= #[]) spA (by simp[go_sem]) ?_
 refine(jo _).mono ?_
 rintro e u' w'' ⟨rfl,rfl,rfl⟩
 refine⟨_,results_tmp2 rfl _ _ _,?_⟩
 exact⟨rfl,hx1⟩
theorem zx(A:Option Addr)(c m:Nat)(oo:Oth)(RA:Option Addr)(rc n:Nat)(kd sq dy tb:Int)(A0:Option Addr)(cp:Nat)(row:List Val)(key:Val)(cl:Int)(vl:Val)(w:World)(hx:uO w w.heap.size A c m oo):
 Calls Tryz.prog 85 #[.agg #[.slice A m c,.slice oo.vA 0 oo.vc,.slice oo.iA oo.idx.length oo.ic,.slice oo.sA oo.skt.length oo.sc,.slice oo.cA oo.cch.length oo.cc,.slice oo.rA oo.rel.length oo.rc,.slice oo.tA oo.str.length oo.tc,.slice oo.bA oo.bak.length oo.bc],.slice RA n rc,.agg #[.int .i64 kd,.int .i64 sq,.int .i64 dy,.int .i64 tb,.slice A0 row.length cp,.int .i64 key.kind,.int .i64 key.num,.string key.text,.int .i64 cl,.int .i64 vl.kind,.int .i64 vl.num,.string vl.text]] w fun e w'=>e=.returned (.int .i64 1)∧Below w.heap.size w w':=by
 have HV:=qh fun(u:World) (hu:Below w.heap.size w u)=>zu A c m oo RA rc n u (hx.next hu)
 clear hx
 go_enter Tryz.func85,Tryz.ntmps85
 go_wp2_with (go_at_call 102;(with_reducible refine(HV.out _ ak).mono ?_);rintro e w1 ⟨rfl,hb1⟩;have hx1:Below w.heap.size w w1:=ae ak hb1 leA)
 go_ret
 exact⟨rfl,hx1⟩
theorem zz(A:Option Addr)(c m:Nat)(oo:Oth)(RA:Option Addr)(rc n:Nat)(kd sq dy tb:Int)(A0:Option Addr)(cp:Nat)(row:List Val)(key:Val)(cl:Int)(vl:Val)(w:World)(hx:uO w w.heap.size A c m oo):
 Calls Tryz.prog 45 #[.agg #[.slice A m c,.slice oo.vA 0 oo.vc,.slice oo.iA oo.idx.length oo.ic,.slice oo.sA oo.skt.length oo.sc,.slice oo.cA oo.cch.length oo.cc,.slice oo.rA oo.rel.length oo.rc,.slice oo.tA oo.str.length oo.tc,.slice oo.bA oo.bak.length oo.bc],.slice RA n rc,.agg #[.int .i64 kd,.int .i64 sq,.int .i64 dy,.int .i64 tb,.slice A0 row.length cp,.int .i64 key.kind,.int .i64 key.num,.string key.text,.int .i64 cl,.int .i64 vl.kind,.int .i64 vl.num,.string vl.text]] w fun e w'=>e=.returned (.tuple #[.slice none 0 0,.int .i64 1])∧Below w.heap.size w w':=by
 have HV:=qh fun(u:World) (hu:Below w.heap.size w u)=>zx A c m oo RA rc n kd sq dy tb A0 cp row key cl vl u (hx.next hu)
 clear hx
 go_enter Tryz.func45,Tryz.ntmps45
 go_wp2_with (go_at_call 85;(with_reducible refine(HV.out _ ak).mono ?_);rintro e w1 ⟨rfl,hb1⟩;have hx1:Below w.heap.size w w1:=ae ak hb1 leA)
 go_ret2
 exact⟨rfl,hx1⟩
theorem vW(A:Option Addr)(c m:Nat)(oo:Oth)(RA:Option Addr)(rc n:Nat)(kd sq dy tb:Int)(A0:Option Addr)(cp:Nat)(row:List Val)(key:Val)(cl:Int)(vl:Val)(w:World)(hx:uO w w.heap.size A c m oo):
 Calls Tryz.prog 29 #[.agg #[.slice A m c,.slice oo.vA 0 oo.vc,.slice oo.iA oo.idx.length oo.ic,.slice oo.sA oo.skt.length oo.sc,.slice oo.cA oo.cch.length oo.cc,.slice oo.rA oo.rel.length oo.rc,.slice oo.tA oo.str.length oo.tc,.slice oo.bA oo.bak.length oo.bc],.slice RA n rc,.agg #[.int .i64 kd,.int .i64 sq,.int .i64 dy,.int .i64 tb,.slice A0 row.length cp,.int .i64 key.kind,.int .i64 key.num,.string key.text,.int .i64 cl,.int .i64 vl.kind,.int .i64 vl.num,.string vl.text]] w fun e w'=>e=.returned (.bool true)∧Below w.heap.size w w':=by
 have HX0:=qh hx
 clear hx
 go_enter Tryz.func29,Tryz.ntmps29
 go_upto_region 1 with (fail)
 refine aj (P:=fun u=>Code.wp _ _ _ _ u) (R:=fun u=>Blk u w.heap.size 39 #[.slice A m c,.slice oo.vA 0 oo.vc,.slice oo.iA oo.idx.length oo.ic,.slice oo.sA oo.skt.length oo.sc,.slice oo.cA oo.cch.length oo.cc,.slice oo.rA oo.rel.length oo.rc,.slice oo.tA oo.str.length oo.tc,.slice oo.bA oo.bak.length oo.bc]∧Blk u (w.heap.size+1) 64 (Chg.cells ⟨kd,sq,dy,tb,A0,cp,row,key,cl,vl⟩).toArray∧Below w.heap.size w u) ⟨?_,?_,?_⟩ ?_
 ·exact(Blk.new _ _ _).alloc _
 ·exact Blk.new' spA
 ·exact ak
 rintro W ⟨hC,hX,hbW⟩
 have hzW:=hX.lt
 have HC:=qh hC
 have HX:=qh hX
 obtain⟨p0,p1,p2,p3,p4,p5,p6,p7⟩:=Cat.bG hC
 obtain⟨⟨q0,q1,q2,q3⟩,q4,⟨q5,q6,q7⟩,q8,q9,q10,q11⟩:=Chg.blk hX
 simp only at q0 q1 q2 q3 q4 q5 q6 q7 q8 q9 q10 q11
 clear hC hX
 go_upto_region 2 with (go_at_call 72;(with_reducible refine(De A c m oo RA rc n kd sq dy tb A0 cp row key cl vl _ (HX0.out.next hbW)).mono ?_);rintro e w1 ⟨rfl,hb1⟩)
 clear p0 p1 p2 p3 p4 p5 p6 p7 q0 q1 q2 q3 q4 q5 q6 q7 q8 q9 q10 q11
 have hx1:=ae hbW hb1 hbW.size
 have hz1:=hb1.size
 have hC1:=HC.out.below hb1 omA
 have hX1:=HX.out.below hb1 hzW
 obtain⟨p0,p1,p2,p3,p4,p5,p6,p7⟩:=Cat.bG hC1
 obtain⟨⟨q0,q1,q2,q3⟩,q4,⟨q5,q6,q7⟩,q8,q9,q10,q11⟩:=Chg.blk hX1
 simp only at q0 q1 q2 q3 q4 q5 q6 q7 q8 q9 q10 q11
 clear hC1 hX1
 go_upto_region 3 with (go_at_call 45;(with_reducible refine(zz A c m oo RA rc n kd sq dy tb A0 cp row key cl vl _ (HX0.out.next hx1)).mono ?_);rintro e w2 ⟨rfl,hb2⟩)
 clear p0 p1 p2 p3 p4 p5 p6 p7 q0 q1 q2 q3 q4 q5 q6 q7 q8 q9 q10 q11
 have hx2:=ae hx1 hb2 hx1.size
 have hy2:=ae hb1 hb2 hb1.size
 have hz2:=hb2.size
 have hC2:=HC.out.below hy2 omA
 have hX2:=HX.out.below hy2 hzW
 obtain⟨p0,p1,p2,p3,p4,p5,p6,p7⟩:=Cat.bG hC2
 obtain⟨⟨q0,q1,q2,q3⟩,q4,⟨q5,q6,q7⟩,q8,q9,q10,q11⟩:=Chg.blk hX2
 simp only at q0 q1 q2 q3 q4 q5 q6 q7 q8 q9 q10 q11
 clear hC2 hX2
 go_wp2_with (first
  | (go_at_call 69;(with_reducible refine(Db A c m oo RA rc n kd sq dy tb A0 cp row key cl vl _ (HX0.out.next hx2)).mono ?_);rintro e w3 ⟨rfl,hb3⟩;have hx3:=ae hx2 hb3 hx2.size;have hz3:=hb3.size)
  | (go_at_call 25;(with_reducible refine(pX none none 0 0 0 0 [] [] _ yz yz rfl rfl ⟨by simp,by simp,by simp,by simp⟩ rfl).mono ?_);rintro e w4 ⟨rfl,hb4⟩;have hx4:=ae hx3 hb4 hx3.size))
 go_ret
 exact⟨rfl,hx4⟩
theorem vY(A:Option Addr)(c:Nat)(ts:List Tab)(oo:Oth)(RA:Option Addr)(rc n:Nat)(rt:List RTab)(kd sq dy tb:Int)(A0:Option Addr)(cp:Nat)(row:List Val)(key:Val)(cl:Int)(vl:Val)(w:World)(ht:aM w w.heap.size A ts)(hs:aK ts)(ho:cO w w.heap.size oo)(hso:eO oo)(h16:jb oo)(hrt:aJ w w.heap.size RA rt)(hn:rt.length=n)(hsr:dQ rt)(hR:ai w w.heap.size Val.cells 3 A0 row)(hrl:row.length≤1000000):
 Calls Tryz.prog 29 #[.agg #[.slice A ts.length c,.slice oo.vA 0 oo.vc,.slice oo.iA oo.idx.length oo.ic,.slice oo.sA oo.skt.length oo.sc,.slice oo.cA oo.cch.length oo.cc,.slice oo.rA oo.rel.length oo.rc,.slice oo.tA oo.str.length oo.tc,.slice oo.bA oo.bak.length oo.bc],.slice RA n rc,.agg #[.int .i64 kd,.int .i64 sq,.int .i64 dy,.int .i64 tb,.slice A0 row.length cp,.int .i64 key.kind,.int .i64 key.num,.string key.text,.int .i64 cl,.int .i64 vl.kind,.int .i64 vl.num,.string vl.text]] w fun e w'=>e=.returned (.bool true)∧Below w.heap.size w w':=by
 by_cases hok:dD ts oo
 ·exact pI (o:=oo) A c ts.length ts RA rc n rt kd sq dy tb A0 cp row key cl vl w ht rfl hs hok.1 (fq.of ht hs ho hso h16 hok) hrt hn hsr hR hrl
 ·exact vW A c ts.length oo RA rc n kd sq dy tb A0 cp row key cl vl w (uO.of ht hs ho hso h16 hok)
end Go.Proofs.YtebippoohpnjkaaGreat
