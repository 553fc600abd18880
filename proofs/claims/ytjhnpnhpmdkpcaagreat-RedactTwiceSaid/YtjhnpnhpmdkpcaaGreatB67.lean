/-
  Contracts and plain laws of this seat, part 67: Aw21.
-/
import Derived.Test.YtjhnpnhpmdkpcaaGreatB66
import Derived.Test.YtjhnpnhpmdkpcaaGreatB65
set_option linter.unusedVariables false
set_option linter.unusedSimpArgs false
set_option maxRecDepth 100000
set_option maxHeartbeats 16000000
namespace Go.Proofs.YtjhnpnhpmdkpcaaGreat
open Go.RowKit Go
theorem vn_key0 : ∀ x∈([]:List Vn),∃ kl,Go.keyOf Tryz.prog 56 (vnV x)=some kl:=fun x hx=>by cases hx
theorem src_key0 : ∀ x∈([]:List Src),∃ kl,Go.keyOf Tryz.prog 51 (srcK x)=some kl:=fun x hx=>by cases hx
theorem dd_len (A:Option Addr) (cp:Nat):(dd A cp).length = 3:=rfl
def ddW (A:Option Addr) (cp:Nat):List Chg := [d1 A cp,{ d2 with val:=nulV },d3]
theorem ddW_len (A:Option Addr) (cp:Nat):(ddW A cp).length = 3:=rfl
theorem ddW_in {w:World} {q z:Nat} (hV:Blk w z 53 ([vOne,vX].flatMap Val.cells).toArray) (hL:Blk w q 79 ((ddW (some ⟨z,0,none⟩) 2).flatMap Chg.cells).toArray):ChgsIn w w.heap.size (some ⟨q,0,none⟩) (ddW (some ⟨z,0,none⟩) 2):=dd_in rfl hV hL
theorem dd_put {w:World} {q z:Nat} (hL:Blk w q 79 ((dd (some ⟨z,0,none⟩) 2).flatMap Chg.cells).toArray):Blk (((w.setCell ⟨q,21,none⟩ (.int .i64 0)).setCell ⟨q,22,none⟩ (.int .i64 0)).setCell ⟨q,23,none⟩ (.string ⟨#[]⟩)) q 79 ((ddW (some ⟨z,0,none⟩) 2).flatMap Chg.cells).toArray:=by
 have h:=((hL.set_ 21 (.int .i64 0)).set_ 22 (.int .i64 0)).set_ 23 (.string ⟨#[]⟩)
 exact h.eq rfl
theorem vn_key1 : ∀ x∈([⟨0,1,9⟩]:List Vn),∃ kl,Go.keyOf Tryz.prog 56 (vnV x)=some kl:=fun x hx=>by
 rw [List.mem_singleton.1 hx]
 exact vn_key (a := 0) (b := 1) (c := 9) (by decide) (by decide) (by decide)
theorem src_key1 : ∀ x∈([⟨0,2⟩]:List Src),∃ kl,Go.keyOf Tryz.prog 51 (srcK x)=some kl:=fun x hx=>by
 rw [List.mem_singleton.1 hx]
 exact srcK_key (a := 0) (b := 2) (by decide) (by decide)
theorem law21_awake (w:World):Calls Tryz.prog 16 #[] w fun e w'=>e = .returned (.bool true)∧Below w.heap.size w w':=by
 go_enter Tryz.func16,Tryz.ntmps16
 go_upto_region 2 with (first
  | (go_at_call 43;(with_reducible refine (law21_plain _).mono ?_);rintro e u1 ⟨⟨CA,cq,rfl,ht1⟩,hb1⟩;have HT1:=qh ht1;clear ht1)
  | (go_at_call 44;(with_reducible refine (law21_three _).mono ?_);rintro e u2 ⟨⟨lq,z,rfl,_,_,hV2,hL2⟩,hb2⟩;have hx2:Below w.heap.size w u2:=below_nextN hb1 hb2 hb1.size;have HT2:=qh (HT1.out.next hb2);have HL2:=qh (dd_in (l:=dd (some ⟨z,0,none⟩) 2) rfl hV2 hL2);clear hV2 hL2)
  | (go_at_call 23;go_must (generalize hu3:World.alloc u2 _=u3;have hb3:Below u2.heap.size u2 u3:=(by rw [← hu3];exact belA);have HV3:Hid (SliceIs u3 u3.heap.size Vn.cells 3 (some ⟨u2.heap.size,0,none⟩) [⟨0,1,9⟩]):=qh (Blk.one (enc:=Vn.cells) (x:=⟨0,1,9⟩) (by rw [← hu3];exact Blk.new' rfl) (by rw [← hu3];simp));clear hu3;(with_reducible refine (red_History CA 1 1 [tabPl cq] (some ⟨lq,0,none⟩) 3 3 (dd (some ⟨z,0,none⟩) 2) (some ⟨u2.heap.size,0,none⟩) 1 1 [⟨0,1,9⟩] none 0 0 [] _ (HT2.out.next hb3) rfl (catP_sane _) (HL2.out.next hb3) (dd_len _ _) (ord_dd _ _ _) HV3.out rfl (by decide) vn_key1 SliceIs.nil rfl (by decide) src_key0).mono ?_);rintro e w1 ⟨⟨KA,kc,kl,rfl,hko,hkm,hkn⟩,hb4⟩;have hx4:Below w.heap.size w w1:=below_nextN (below_nextN hx2 hb3 hx2.size) hb4 (by have:=hx2.size;have:=hb3.size;omega);have HKO:=qh hko;have HKM:=qh hkm;clear hko hkm)))
 clear hb1 hb2 hb3 hb4 hx2 HT1 HT2 HL2 HV3
 go_upto_region 3 with (first
  | (go_at_call 43;(with_reducible refine (law21_plain _).mono ?_);rintro e u1 ⟨⟨CA,cq,rfl,ht1⟩,hb1⟩;have HT1:=qh ht1;clear ht1)
  | (go_at_call 44;(with_reducible refine (law21_three _).mono ?_);rintro e u2 ⟨⟨lq,z,rfl,_,_,hV2,hL2⟩,hb2⟩;have hx2:Below w1.heap.size w1 u2:=below_nextN hb1 hb2 hb1.size;have HT2:=qh (HT1.out.next hb2);have HL2:=qh (dd_in (l:=dd (some ⟨z,0,none⟩) 2) rfl hV2 hL2);clear hV2 hL2)
  | (go_at_call 23;go_must (generalize hu3:World.alloc u2 _=u3;have hb3:Below u2.heap.size u2 u3:=(by rw [← hu3];exact belA);have HV3:Hid (SliceIs u3 u3.heap.size Src.cells 2 (some ⟨u2.heap.size,0,none⟩) [⟨0,2⟩]):=qh (Blk.one (enc:=Src.cells) (x:=⟨0,2⟩) (by rw [← hu3];exact Blk.new' rfl) (by rw [← hu3];simp));clear hu3;(with_reducible refine (red_History CA 1 1 [tabPl cq] (some ⟨lq,0,none⟩) 3 3 (dd (some ⟨z,0,none⟩) 2) none 0 0 [] (some ⟨u2.heap.size,0,none⟩) 1 1 [⟨0,2⟩] _ (HT2.out.next hb3) rfl (catP_sane _) (HL2.out.next hb3) (dd_len _ _) (ord_dd _ _ _) SliceIs.nil rfl (by decide) vn_key0 HV3.out rfl (by decide) src_key1).mono ?_);rintro e w2 ⟨⟨KB,kd,kl2,rfl,_,hkm2,_⟩,hb4⟩;have hx5:Below w1.heap.size w1 w2:=below_nextN (below_nextN hx2 hb3 hx2.size) hb4 (by have:=hx2.size;have:=hb3.size;omega))))
 have hk0:kl2 = []:=by
  have h:kl2.map unC = []:=hkm2.trans (his_dd2 _ _)
  simpa using h
 subst hk0
 have HKO2:=qh (HKO.out.below hx5)
 have hx6:Below w.heap.size w w2:=below_nextN hx4 hx5 hx4.size
 clear hb1 hb2 hb3 hb4 hx2 HT1 HT2 HL2 HV3 hkm2 HKO hx5
 go_upto_region 4 with (go_at_call 44;(with_reducible refine (law21_three _).mono ?_);rintro e w3 ⟨⟨wq,z,rfl,_,hwq,hV3,hL3⟩,hb3⟩)
 have hzq:z≠wq:=fun e=>by subst e;exact cells_ne hL3 (by decide) _ hV3
 have HL3:=qh hL3
 have HV3:=qh hV3
 have hL3l:=hL3.lt
 have c21:=hL3.cell 21
 have c22:=hL3.cell 22
 have c23:=hL3.cell 23
 have f21:=fun j=>hL3.frozen j
 rw [show (((dd (some ⟨z,0,none⟩) 2).flatMap Chg.cells).toArray)[21]? = some (.int .i64 2) from rfl] at c21
 rw [show (((dd (some ⟨z,0,none⟩) 2).flatMap Chg.cells).toArray)[22]? = some (.int .i64 0) from rfl] at c22
 rw [show (((dd (some ⟨z,0,none⟩) 2).flatMap Chg.cells).toArray)[23]? = some (.string ⟨#[121]⟩) from rfl] at c23
 clear hL3 hV3
 go_upto_region 5 with (fail)
 refine abs_world (P:=fun u=>Code.wp _ _ _ _ u) (R:=fun u=>Blk u wq 79 ((ddW (some ⟨z,0,none⟩) 2).flatMap Chg.cells).toArray∧Blk u z 53 ([vOne,vX].flatMap Val.cells).toArray∧Below w2.heap.size w2 u) ⟨dd_put HL3.out,((HV3.out.far hzq _).far hzq _).far hzq _,((hb3.setCell hwq _).setCell hwq _).setCell hwq _⟩ ?_
 clear c21 c22 c23 f21 HL3 HV3 hL3l hb3
 rintro U ⟨hLU,hVU,hbU⟩
 have hxU:Below w.heap.size w U:=below_nextN hx6 hbU hx6.size
 have HKU:=qh (HKO2.out.below hbU)
 have HLU:=qh (ddW_in hVU hLU)
 have HKM1:Hid (kl.map unC=(ddW (some ⟨z,0,none⟩) 2).map unC):=qh (HKM.out.trans ((his_dd1 _ _).trans rfl))
 have hkl3:kl.length = 3:=by
  have h:=congrArg List.length HKM1.out
  simpa [ddW] using h
 have HK3:=qh hkl3
 clear hLU hVU hkl3
 go_wp2_with (first
  | (go_at_call 22;go_must ((with_reducible refine (ref18_SameU KA (some ⟨wq,0,none⟩) kc 3 kl.length 3 kl (ddW (some ⟨z,0,none⟩) 2) _ HKU.out.read HLU.out rfl (ddW_len _ _) (by rw [HK3.out];decide) HKM1.out (fun x hx=>Nat.le_trans (HKU.out.len x hx) omA)).mono ?_);rintro e u1 ⟨rfl,hb1⟩;have hy1:Below w.heap.size w u1:=below_nextN hxU hb1 hxU.size))
  | (go_at_call 43;(with_reducible refine (law21_plain _).mono ?_);rintro e u2 ⟨⟨CA,cq,rfl,ht2⟩,hb2⟩;have hy2:Below w.heap.size w u2:=below_nextN hy1 hb2 hy1.size;have HT2:=qh ht2;clear ht2)
  | (go_at_call 44;(with_reducible refine (law21_three _).mono ?_);rintro e u3 ⟨⟨lq,z2,rfl,_,_,hV2,hL2⟩,hb3⟩;have hy3:Below w.heap.size w u3:=below_nextN hy2 hb3 hy2.size;have HT3:=qh (HT2.out.next hb3);have HL3:=qh (dd_in (l:=dd (some ⟨z2,0,none⟩) 2) rfl hV2 hL2);clear hV2 hL2)
  | (go_at_call 20;go_must ((with_reducible refine (red_Effective CA 1 1 [tabPl cq] (some ⟨lq,0,none⟩) 3 3 (dd (some ⟨z2,0,none⟩) 2) _ HT3.out rfl (catP_sane _) HL3.out (dd_len _ _) (ord_dd _ _ _)).mono ?_);rintro e u4 ⟨⟨KC,ke,kl4,rfl,_,hkm4,_⟩,hb4⟩;have hy4:Below w.heap.size w u4:=below_nextN hy3 hb4 hy3.size;have hk4:kl4.length = 3:=(by have h:=congrArg List.length (hkm4.trans (congrArg _ (fol_dd _ _)));simpa using h);rw [hk4])))
 go_ret
 exact ⟨rfl,hy4⟩
end Go.Proofs.YtjhnpnhpmdkpcaaGreat
