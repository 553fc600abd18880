/-
  Contracts and plain laws of this seat, part 67.
-/
import Derived.Test.YtjhnpnhpmdkpcaaGreatD66
import Derived.Test.YtjhnpnhpmdkpcaaGreatD65
set_option linter.unusedVariables false
set_option linter.unusedSimpArgs false
set_option maxRecDepth 100000
set_option maxHeartbeats 16000000
namespace Go.Proofs.YtjhnpnhpmdkpcaaGreat
open Go.RowKit Go
theorem fm{P:Prop}(h:P:=by have:=hx2.size;have:=hb3.size;omega):P:=h
theorem H8:∀x∈([]:List Vn),∃kl,Go.keyOf Tryz.prog 56 (vnV x)=some kl:=fun x hx=>by cases hx
theorem De:∀x∈([]:List Src),∃kl,Go.keyOf Tryz.prog 51 (lu x)=some kl:=fun x hx=>by cases hx
theorem Gz(A:Option Addr)(cp:Nat):(dd A cp).length=3:=rfl
def ddW(A:Option Addr)(cp:Nat):List Chg:= [d1 A cp,{ d2 with val:=fG },d3]
theorem P9(A:Option Addr)(cp:Nat):(ddW A cp).length=3:=rfl
theorem Sn{w:World}{q z:Nat}(hV:Blk w z 53 ([iT,vX].flatMap Val.cells).toArray)(hL:Blk w q 79 ((ddW (some ⟨z,0,none⟩) 2).flatMap Chg.cells).toArray):dx w w.heap.size (some ⟨q,0,none⟩) (ddW (some ⟨z,0,none⟩) 2):=Iq rfl hV hL
theorem Sm{w:World}{q z:Nat}(hL:Blk w q 79 ((dd (some ⟨z,0,none⟩) 2).flatMap Chg.cells).toArray):Blk (((w.setCell ⟨q,21,none⟩ (.int .i64 0)).setCell ⟨q,22,none⟩ (.int .i64 0)).setCell ⟨q,23,none⟩ (.string ⟨#[]⟩)) q 79 ((ddW (some ⟨z,0,none⟩) 2).flatMap Chg.cells).toArray:=by
 have h:=((hL.bI 21 (.int .i64 0)).bI 22 (.int .i64 0)).bI 23 (.string ⟨#[]⟩)
 exact h.eq rfl
theorem Ox:∀x∈([⟨0,1,9⟩]:List Vn),∃kl,Go.keyOf Tryz.prog 56 (vnV x)=some kl:=fun x hx=>by
 rw[List.mem_singleton.1 hx]
 exact Bp (a:= 0) (b:= 1) (c:= 9) (by decide) (by decide) (by decide)
theorem Ls:∀x∈([⟨0,2⟩]:List Src),∃kl,Go.keyOf Tryz.prog 51 (lu x)=some kl:=fun x hx=>by
 rw[List.mem_singleton.1 hx]
 exact tK (a:= 0) (b:= 2) (by decide) (by decide)
theorem wz(w:World):Calls Tryz.prog 16 #[] w fun e w'=>e=.returned (.bool true)∧Below w.heap.size w w':=by
 go_enter Tryz.func16,Tryz.ntmps16
 go_upto_region 2 with (first
  | (go_at_call 43;(with_reducible refine(pM _).mono ?_);rintro e u1 ⟨⟨CA,cq,rfl,ht1⟩,hb1⟩;have HT1:=qh ht1;clear ht1)
  | (go_at_call 44;(with_reducible refine(ma _).mono ?_);rintro e u2 ⟨⟨lq,z,rfl,_,_,hV2,hL2⟩,hb2⟩;have hx2:Below w.heap.size w u2:=aa hb1 hb2 hb1.size;have HT2:=qh (HT1.out.next hb2);have HL2:=qh (Iq (l:=dd (some ⟨z,0,none⟩) 2) rfl hV2 hL2);clear hV2 hL2)
  | (go_at_call 23;go_must (generalize hu3:World.alloc u2 _=u3;have hb3:Below u2.heap.size u2 u3:=(by rw[←hu3];exact ai);have HV3:Hid (ag u3 u3.heap.size Vn.cells 3 (some ⟨u2.heap.size,0,none⟩) [⟨0,1,9⟩]):=qh (Blk.one (enc:=Vn.cells) (x:=⟨0,1,9⟩) (by rw[←hu3];exact Blk.new' rfl) (by rw[←hu3];simp));clear hu3;(with_reducible refine(l8 CA 1 1 [fK cq] (some ⟨lq,0,none⟩) 3 3 (dd (some ⟨z,0,none⟩) 2) (some ⟨u2.heap.size,0,none⟩) 1 1 [⟨0,1,9⟩] none 0 0 [] _ (HT2.out.next hb3) rfl (vG _) (HL2.out.next hb3) (Gz _ _) (FN _ _ _) HV3.out rfl (by decide) Ox ag.nil rfl (by decide) De).mono ?_);rintro e w1 ⟨⟨KA,kc,kl,rfl,hko,hkm,hkn⟩,hb4⟩;have hx4:Below w.heap.size w w1:=aa (aa hx2 hb3 hx2.size) hb4 fm;have HKO:=qh hko;have HKM:=qh hkm;clear hko hkm)))
 clear hb1 hb2 hb3 hb4 hx2 HT1 HT2 HL2 HV3
 go_upto_region 3 with (first
  | (go_at_call 43;(with_reducible refine(pM _).mono ?_);rintro e u1 ⟨⟨CA,cq,rfl,ht1⟩,hb1⟩;have HT1:=qh ht1;clear ht1)
  | (go_at_call 44;(with_reducible refine(ma _).mono ?_);rintro e u2 ⟨⟨lq,z,rfl,_,_,hV2,hL2⟩,hb2⟩;have hx2:Below w1.heap.size w1 u2:=aa hb1 hb2 hb1.size;have HT2:=qh (HT1.out.next hb2);have HL2:=qh (Iq (l:=dd (some ⟨z,0,none⟩) 2) rfl hV2 hL2);clear hV2 hL2)
  | (go_at_call 23;go_must (generalize hu3:World.alloc u2 _=u3;have hb3:Below u2.heap.size u2 u3:=(by rw[←hu3];exact ai);have HV3:Hid (ag u3 u3.heap.size Src.cells 2 (some ⟨u2.heap.size,0,none⟩) [⟨0,2⟩]):=qh (Blk.one (enc:=Src.cells) (x:=⟨0,2⟩) (by rw[←hu3];exact Blk.new' rfl) (by rw[←hu3];simp));clear hu3;(with_reducible refine(l8 CA 1 1 [fK cq] (some ⟨lq,0,none⟩) 3 3 (dd (some ⟨z,0,none⟩) 2) none 0 0 [] (some ⟨u2.heap.size,0,none⟩) 1 1 [⟨0,2⟩] _ (HT2.out.next hb3) rfl (vG _) (HL2.out.next hb3) (Gz _ _) (FN _ _ _) ag.nil rfl (by decide) H8 HV3.out rfl (by decide) Ls).mono ?_);rintro e w2 ⟨⟨KB,kd,kl2,rfl,_,Un,_⟩,hb4⟩;have hx5:Below w1.heap.size w1 w2:=aa (aa hx2 hb3 hx2.size) hb4 fm)))
 have hk0:kl2=[]:=by
  have h:kl2.map unC=[]:=Un.trans (Pt _ _)
  simpa using h
 subst hk0
 have XV:=qh (HKO.out.below hx5)
 have hx6:Below w.heap.size w w2:=aa hx4 hx5 hx4.size
 clear hb1 hb2 hb3 hb4 hx2 HT1 HT2 HL2 HV3 Un HKO hx5
 go_upto_region 4 with (go_at_call 44;(with_reducible refine(ma _).mono ?_);rintro e w3 ⟨⟨wq,z,rfl,_,hwq,hV3,hL3⟩,hb3⟩)
 have hzq:z≠wq:=fun e=>by subst e;exact jq hL3 (by decide) _ hV3
 have HL3:=qh hL3
 have HV3:=qh hV3
 have Xj:=hL3.lt
 have c21:=hL3.cell 21
 have c22:=hL3.cell 22
 have c23:=hL3.cell 23
 have f21:=fun j=>hL3.frozen j
 rw[show (((dd (some ⟨z,0,none⟩) 2).flatMap Chg.cells).toArray)[21]?=some (.int .i64 2) from rfl]at c21
 rw[show (((dd (some ⟨z,0,none⟩) 2).flatMap Chg.cells).toArray)[22]?=some (.int .i64 0) from rfl]at c22
 rw[show (((dd (some ⟨z,0,none⟩) 2).flatMap Chg.cells).toArray)[23]?=some (.string ⟨#[121]⟩) from rfl]at c23
 clear hL3 hV3
 go_upto_region 5 with (fail)
 refine ah (P:=fun u=>Code.wp _ _ _ _ u) (R:=fun u=>Blk u wq 79 ((ddW (some ⟨z,0,none⟩) 2).flatMap Chg.cells).toArray∧Blk u z 53 ([iT,vX].flatMap Val.cells).toArray∧Below w2.heap.size w2 u) ⟨Sm HL3.out,((HV3.out.far hzq _).far hzq _).far hzq _,((hb3.setCell hwq _).setCell hwq _).setCell hwq _⟩ ?_
 clear c21 c22 c23 f21 HL3 HV3 Xj hb3
 rintro U ⟨hLU,hVU,hbU⟩
 have hxU:Below w.heap.size w U:=aa hx6 hbU hx6.size
 have HKU:=qh (XV.out.below hbU)
 have HLU:=qh (Sn hVU hLU)
 have VI:Hid (kl.map unC=(ddW (some ⟨z,0,none⟩) 2).map unC):=qh (HKM.out.trans ((Pv _ _).trans rfl))
 have Uq:kl.length=3:=by
  have h:=congrArg List.length VI.out
  simpa[ddW]using h
 have HK3:=qh Uq
 clear hLU hVU Uq
 go_wp2_with (first
  | (go_at_call 22;go_must ((with_reducible refine(oZ KA (some ⟨wq,0,none⟩) kc 3 kl.length 3 kl (ddW (some ⟨z,0,none⟩) 2) _ HKU.out.read HLU.out rfl (P9 _ _) (by rw[HK3.out];decide) VI.out (fun x hx=>Nat.le_trans (HKU.out.len x hx) omA)).mono ?_);rintro e u1 ⟨rfl,hb1⟩;have hy1:Below w.heap.size w u1:=aa hxU hb1 hxU.size))
  | (go_at_call 43;(with_reducible refine(pM _).mono ?_);rintro e u2 ⟨⟨CA,cq,rfl,ht2⟩,hb2⟩;have hy2:Below w.heap.size w u2:=aa hy1 hb2 hy1.size;have HT2:=qh ht2;clear ht2)
  | (go_at_call 44;(with_reducible refine(ma _).mono ?_);rintro e u3 ⟨⟨lq,z2,rfl,_,_,hV2,hL2⟩,hb3⟩;have hy3:Below w.heap.size w u3:=aa hy2 hb3 hy2.size;have HT3:=qh (HT2.out.next hb3);have HL3:=qh (Iq (l:=dd (some ⟨z2,0,none⟩) 2) rfl hV2 hL2);clear hV2 hL2)
  | (go_at_call 20;go_must ((with_reducible refine(mH CA 1 1 [fK cq] (some ⟨lq,0,none⟩) 3 3 (dd (some ⟨z2,0,none⟩) 2) _ HT3.out rfl (vG _) HL3.out (Gz _ _) (FN _ _ _)).mono ?_);rintro e u4 ⟨⟨KC,ke,kl4,rfl,_,WH,_⟩,hb4⟩;have hy4:Below w.heap.size w u4:=aa hy3 hb4 hy3.size;have hk4:kl4.length=3:=(by have h:=congrArg List.length (WH.trans (congrArg _ (Gt _ _)));simpa using h);rw[hk4])))
 go_ret
 exact⟨rfl,hy4⟩
end Go.Proofs.YtjhnpnhpmdkpcaaGreat
