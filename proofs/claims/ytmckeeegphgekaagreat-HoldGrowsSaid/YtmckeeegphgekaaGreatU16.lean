/-
  Contracts and plain laws of this seat, part 16: GenH.
-/
import Derived.Test.YtmckeeegphgekaaGreatU2
import Derived.Test.YtmckeeegphgekaaGreatU7
import Derived.Test.YtmckeeegphgekaaGreatU3
set_option linter.unusedVariables false
set_option linter.unusedSimpArgs false
namespace Go.Proofs.YtmckeeegphgekaaGreat
open Go.RowKit
theorem wrap_inH (n:Int) (h1 : -1000000≤n) (h2:n ≤ 1000000):IntKind.i64.wrap n=n:=by
 simp [IntKind.wrap,IntKind.bits,IntKind.signed]
 omega
set_option maxRecDepth 100000 in
set_option maxHeartbeats 4000000 in
theorem tape_Holds (g b n:Nat) (w:World) (hk:IsTape w g b) (hn:n ≤ 60) :
 Calls Tryz.prog 12 #[.pointer (some ⟨g,0,none⟩), .int .i64 n] w fun e w' =>
  ∃ v l,e = .returned v∧Owns w' w.heap.size 61 Hold.cells 9 v l∧SaneH l∧l.length≤n∧IsTape w' g b∧w.grownBy w' (some g):=by
 obtain ⟨i0,hi0,hz0,hz1,hz2⟩:=info_parts infoHold
 have hgl:=hk.ltg
 have hbl:=hk.lt
 have HK:=qh hk
 clear hk
 go_enter Tryz.func12,Tryz.ntmps12
 go_wp2_with fail
 refine (tape_Next g b ((n:Int) + 1) _ HK.out (by omega) (by omega)).mono ?_
 rintro e w0 ⟨r0,rfl,hr0,hk0,hg0⟩
 have hr0':r0≤n:=by rcases hr0 with h|h <;> omega
 have HK0:=qh hk0
 clear hk0
 go_wp2_with fail
 go_loopw [5,6] (fun vo vi wr => ∃ (m:Nat) (l:List Hold),m≤n∧vi = .int .i64 m∧Owns wr w.heap.size 61 Hold.cells 9 vo l∧l.length+m≤n∧SaneH l∧IsTape wr g b∧w.grownBy wr (some g)) (fun _ vi _=>(intOf vi).toNat)
 case atStart=>exact ⟨r0,[],hr0',rfl,Owns.nil,by simpa using hr0',fun x hx=>by simp at hx,HK0.out,hg0⟩
 case round =>
  obtain ⟨m,l,hm,rfl,hown,hlm,hsa,hkr,hgr⟩:=hrel
  have HKR:=qh hkr
  have HSA:=qh hsa
  have hzr:=hgr.size
  by_cases hm0 : 0<m
  ·have hm0':(0:Int)<(m:Int):=by omega
   obtain ⟨A5,c5,rfl,hc5,hsl,hA5⟩:=hown.slice hold_len
   have HOR:=qh hown
   have hrow:=hown.row
   clear hown hsa hkr hsl
   go_wp2_with fail
   refine (tape_Next g b 4 _ HKR.out (by omega) (by omega)).mono ?_
   rintro e w1 ⟨r1,rfl,hr1,hk1,hg1⟩
   have hr1':r1 < 4:=by rcases hr1 with h|h <;> omega
   have HK1:=qh hk1
   clear hk1 hr1
   go_wp2_with fail
   refine (tape_Next g b 15 _ HK1.out (by omega) (by omega)).mono ?_
   rintro e w2 ⟨r2,rfl,hr2,hk2,hg2⟩
   have hr2':r2 < 15:=by rcases hr2 with h|h <;> omega
   have HK2:=qh hk2
   clear hk2 hr2
   go_wp2_with fail
   refine (tape_Next g b 20 _ HK2.out (by omega) (by omega)).mono ?_
   rintro e w3 ⟨r3,rfl,hr3,hk3,hg3⟩
   have hr3':r3 < 20:=by rcases hr3 with h|h <;> omega
   have HK3:=qh hk3
   have hg03:w.grownBy w3 (some g):=grown_trans (grown_trans (grown_trans hgr hg1) hg2) hg3
   have HO3:Hid (Owns w3 w.heap.size 61 Hold.cells 9 (.slice A5 l.length c5) l):=((HOR.out.grown hg1 hgl).grown hg2 hgl).grown hg3 hgl
   have hz3:=hg03.size
   obtain ⟨q,hq⟩ : ∃ q,w3.heap.size=q:=⟨_,rfl⟩
   have hfar : ∀ q',(Value.slice A5 l.length c5).ownBlock=some q'→q'≠q:=fun q' e=>by have:=HO3.out.lt q' e;omega
   have HFAR:=qh hfar
   have HFX:=qh (And.intro (show g≠q by omega) (And.intro (show b≠q by omega) (show w.heap.size≤q by omega)))
   clear hk3 hr3 hfar hgr hg1 hg2 hg3
   go_upto_region 6 with (fail)
   refine abs_world (P:=fun u=>Code.wp _ _ _ _ u) (R:=fun u=>Blk u q 61 (Hold.cells ⟨(r1:Int) - 1,-1,noId,1+(r2:Int),r3,0⟩).toArray∧Owns u w.heap.size 61 Hold.cells 9 (.slice A5 l.length c5) l∧IsTape u g b∧w.grownBy u (some g)) ⟨?_,?_,?_,?_⟩ ?_
   ·rw [← hq]
    exact Blk.new _ _ _
   ·exact HO3.out.alloc _
   ·exact HK3.out.alloc _
   ·exact grown_alloc hg03 _
   rintro U ⟨hXU,hOU,hKU,hGU⟩
   have HXU:=qh hXU
   have HOU:=qh hOU
   have HKU:=qh hKU
   have HGU:=qh hGU
   have hzU:=hXU.lt
   clear hOU hKU hGU HOR HO3 HK3 hg03
   refine wp_region_T (S:=(fun w'=>Blk w' q 61 (Hold.cells ⟨(r1:Int) - 1,-1,noId,1+(r2:Int),r3,0⟩).toArray)) [7] (by kernel_rfl) hXU.drew (fun hHeld => ?_)
   clear hXU
   refine tkT 0 hHeld ?_ (hy:=by intro w' hSw;obtain ⟨sa0,sa1,⟨sa2,sa3,sa4,sa5⟩,sa6,sa7,sa8⟩:=Hold.blk hSw;simp only at sa0 sa1 sa2 sa3 sa4 sa5 sa6 sa7 sa8;clear hSw;go_simp;first|done|with_reducible rfl)
   refine tkT 1 hHeld ?_ (hy:=by intro w' hSw;obtain ⟨sa0,sa1,⟨sa2,sa3,sa4,sa5⟩,sa6,sa7,sa8⟩:=Hold.blk hSw;simp only at sa0 sa1 sa2 sa3 sa4 sa5 sa6 sa7 sa8;clear hSw;go_simp;first|done|with_reducible rfl)
   refine tkT 2 hHeld ?_ (hy:=by intro w' hSw;obtain ⟨sa0,sa1,⟨sa2,sa3,sa4,sa5⟩,sa6,sa7,sa8⟩:=Hold.blk hSw;simp only at sa0 sa1 sa2 sa3 sa4 sa5 sa6 sa7 sa8;clear hSw;go_simp;first|done|with_reducible rfl)
   refine tkT 3 hHeld ?_ (hy:=by intro w' hSw;obtain ⟨sa0,sa1,⟨sa2,sa3,sa4,sa5⟩,sa6,sa7,sa8⟩:=Hold.blk hSw;simp only at sa0 sa1 sa2 sa3 sa4 sa5 sa6 sa7 sa8;clear hSw;go_simp;first|done|with_reducible rfl)
   refine r1T 4 (fun K hK => ?_)
   go_simp
   (go_at_call 14;(with_reducible refine (tape_Next g b 12 _ ?_ (by omega) (by omega)).mono ?_))
   focus (first|with_reducible exact HKU.out|(with_reducible refine IsTape.below (w:=U) HKU.out ?_;exact belA))
   rintro e w4 ⟨r4,rfl,hr4,hk4,hg4⟩
   have hr4':r4 < 12:=by rcases hr4 with h|h <;> omega
   have hgU4:U.grownBy w4 (some g):=grown_trans (grown_start _ (by exact belA)) hg4
   have hz4:=hgU4.size
   have HX4:=qh (HXU.out.grown hgU4 (fun e=>by injection e with e;omega))
   have HO4:=qh (HOU.out.grown hgU4 hgl)
   have HK4:=qh hk4
   have HG4:=qh (grown_trans HGU.out hgU4)
   clear hk4 hr4
   go_wp2_with fail
   refine hK.out _ _ _ HX4.out (fun hHeld => ?_)
   clear hK K
   refine tkT 5 hHeld ?_ (hy:=by intro w' hSw;obtain ⟨sa0,sa1,⟨sa2,sa3,sa4,sa5⟩,sa6,sa7,sa8⟩:=Hold.blk hSw;simp only at sa0 sa1 sa2 sa3 sa4 sa5 sa6 sa7 sa8;clear hSw;go_simp;first|done|with_reducible rfl)
   refine tkT 6 hHeld ?_ (hy:=by intro w' hSw;obtain ⟨sa0,sa1,⟨sa2,sa3,sa4,sa5⟩,sa6,sa7,sa8⟩:=Hold.blk hSw;simp only at sa0 sa1 sa2 sa3 sa4 sa5 sa6 sa7 sa8;clear hSw;go_simp;first|done|with_reducible rfl)
   refine rzT 7 (fun K hK => ?_)
   clear hHeld
   obtain ⟨a0,a1,⟨a2,a3,a4,a5⟩,a6,a7,a8⟩:=Hold.blk HX4.out
   have f8:=HX4.out.frozen 8
   simp only at a0 a1 a2 a3 a4 a5 a6 a7 a8
   go_simp
   refine hK.out _ _ _ ?_
   clear hK K
   refine wpT_done (by kernel_rfl) ?_ _
   go_upto_region 7 with (fail)
   refine abs_world (P:=fun u=>Code.wp _ _ _ _ u) (R:=fun u=>Blk u q 61 (Hold.cells ⟨(r1:Int) - 1,-1,noId,1+(r2:Int),r3,(r3:Int) + 1+r4⟩).toArray∧Owns u w.heap.size 61 Hold.cells 9 (.slice A5 l.length c5) l∧IsTape u g b∧w.grownBy u (some g)) ⟨?_,?_,?_,?_⟩ ?_
   ·with_reducible refine Blk.eq (HX4.out.set_ 8 _) ?_
    simp [Hold.cells]
    rw [wrap_inH ((r3:Int) + 1) (by omega) (by omega),wrap_inH _ (by omega) (by omega)]
   ·with_reducible exact HO4.out.far HFAR.out _
   ·with_reducible exact HK4.out.far HFX.out.1 HFX.out.2.1 _
   ·with_reducible exact only_setCell HG4.out (.inr HFX.out.2.2) _
   clear a0 a1 a2 a3 a4 a5 a6 a7 a8 f8 HX4 HO4 HK4 HG4 HXU HOU HKU HGU hzU hgU4 hg4 hz4
   rintro V ⟨hXV,hOV,hKV,hGV⟩
   have HXU:=qh hXV
   have HOU:=qh hOV
   have HKU:=qh hKV
   have HGU:=qh hGV
   have hzU:=hXV.lt
   obtain ⟨a0,a1,⟨a2,a3,a4,a5⟩,a6,a7,a8⟩:=Hold.blk hXV
   simp only at a0 a1 a2 a3 a4 a5 a6 a7 a8
   have f1:=hXV.frozen 1
   clear hXV hOV hKV hGV
   by_cases ht:(0:Int)≤(r1:Int) - 1
   ·go_wp2_with fail
    (with_reducible refine (tape_Next g b 4 _ HKU.out (by omega) (by omega)).mono ?_)
    rintro e w9 ⟨r9,rfl,hr9,hk9,hg9⟩
    have hr9':r9 < 4:=by rcases hr9 with h|h <;> omega
    have hz9:=hg9.size
    have HX9:=qh (HXU.out.grown hg9 (fun e=>by injection e with e;omega))
    have HO9:=qh (HOU.out.grown hg9 hgl)
    have HK9:=qh hk9
    have HG9:=qh (grown_trans HGU.out hg9)
    clear a0 a1 a2 a3 a4 a5 a6 a7 a8 f1 hk9 hr9
    obtain ⟨a0,a1,⟨a2,a3,a4,a5⟩,a6,a7,a8⟩:=Hold.blk HX9.out
    have f1:=HX9.out.frozen 1
    go_upto_region 9 with (fail)
    refine abs_world (P:=fun u=>Code.wp _ _ _ _ u) (R:=fun u=>Blk u q 61 (Hold.cells ⟨(r1:Int) - 1,(r9:Int) - 1,noId,1+(r2:Int),r3,(r3:Int) + 1+r4⟩).toArray∧Owns u w.heap.size 61 Hold.cells 9 (.slice A5 l.length c5) l∧IsTape u g b∧w.grownBy u (some g)) ⟨?_,?_,?_,?_⟩ ?_
    ·with_reducible refine Blk.eq (HX9.out.set_ 1 _) ?_
     simp [Hold.cells]
    ·with_reducible exact HO9.out.far HFAR.out _
    ·with_reducible exact HK9.out.far HFX.out.1 HFX.out.2.1 _
    ·with_reducible exact only_setCell HG9.out (.inr HFX.out.2.2) _
    clear a0 a1 a2 a3 a4 a5 a6 a7 a8 f1 HX9 HO9 HK9 HG9 HXU HOU HKU HGU hzU hg9 hz9
    rintro V9 ⟨hXV,hOV,hKV,hGV⟩
    have HXU:=qh hXV
    have HOU:=qh hOV
    have HKU:=qh hKV
    have HGU:=qh hGV
    have hzU:=hXV.lt
    clear hXV hOV hKV hGV
    have hX9:=HXU.out
    have HKU9:=HKU
    clear hX9
    go_wp2_with fail
    (with_reducible refine (tape_Next g b 3 _ HKU9.out (by omega) (by omega)).mono ?_)
    rintro e w7 ⟨r7,rfl,hr7,hk7,hg7⟩
    have hz7:=hg7.size
    have HX7:=qh (HXU.out.grown hg7 (fun e=>by injection e with e;omega))
    have HO7:=qh (HOU.out.grown hg7 hgl)
    have HK7:=qh hk7
    have HG7:=qh (grown_trans HGU.out hg7)
    clear hk7 hr7 HKU9
    by_cases h70:r7 = 0
    ·subst h70
     have HXW:=HX7
     have HOW:=HO7
     have HKW:=HK7
     have HGW:=HG7
     obtain ⟨a0,a1,⟨a2,a3,a4,a5⟩,a6,a7,a8⟩:=Hold.blk HXW.out
     have hzU:=HXW.out.lt
     simp only at a0 a1 a2 a3 a4 a5 a6 a7 a8
     go_wp2_with (at_builtin;go_must (refine wpList_append_list _ rfl (.tmp 45) (.tmp 47) 40 rfl 61 i0 _ Hold.cells 9 88 Tryz.underlying40 hi0 hz0 hz1 hz2 rfl (by omega) hold_len hold_one w.heap.size (.slice A5 l.length c5) l rfl (HOW.out.alloc _) _ _ _ [(⟨(r1:Int) - 1,((r9:Int) - 1),noId,1+(r2:Int),r3,(r3:Int) + 1+r4⟩:Hold)] rfl rfl (Blk.one (enc:=Hold.cells) (x:=(⟨(r1:Int) - 1,((r9:Int) - 1),noId,1+(r2:Int),r3,(r3:Int) + 1+r4⟩:Hold)) (Blk.new' (by simp)) (by simp)) (by simp;omega) (by simp [maxLen];omega) (by have:=HGW.out.size;simp at this ⊢;omega) ?_);intro v' w6 hown' hg' hat';have HOWN':=qh hown';clear hown';have HK6:Hid (IsTape w6 g b):=(HKW.out.alloc _).grownO hg' (fun e=>by have:=hrow _ e.symm;omega) (fun e=>by have:=hrow _ e.symm;omega);have HG6:Hid (w.grownBy w6 (some g)):=grown_newO (grown_alloc HGW.out _) hg' hrow)
     go_roundw
     case rel=>exact ⟨m - 1,l ++ [(⟨(r1:Int) - 1,((r9:Int) - 1),noId,1+(r2:Int),r3,(r3:Int) + 1+r4⟩:Hold)],by omega,by go_num,HOWN'.out,by simp;omega,fun x hx=>by
      rcases List.mem_append.1 hx with h|h
      ·exact HSA.out x h
      ·obtain rfl:x=(⟨(r1:Int) - 1,((r9:Int) - 1),noId,1+(r2:Int),r3,(r3:Int) + 1+r4⟩:Hold):=by simpa using h
       exact (Nat.zero_le _),HK6.out,HG6.out⟩
     case measure=>simp [intOf];omega
    ·have h70':(0:Int)<(r7:Int):=by omega
     clear h70
     go_wp2_with fail
     (with_reducible refine (tape_Identifier g b _ HK7.out).mono ?_)
     rintro e w8 ⟨x8,rfl,hv8,hs8,hk8,hg8⟩
     have hz8:=hg8.size
     have HX8:=qh (HX7.out.grown hg8 (fun e=>by injection e with e;omega))
     have HO8:=qh (HO7.out.grown hg8 hgl)
     have HK8:=qh hk8
     have HG8:=qh (grown_trans HG7.out hg8)
     have f2:=HX8.out.frozen 2
     have f3:=HX8.out.frozen 3
     have f4:=HX8.out.frozen 4
     have f5:=HX8.out.frozen 5
     obtain ⟨a0,a1,⟨a2,a3,a4,a5⟩,a6,a7,a8⟩:=Hold.blk HX8.out
     clear hk8 hv8
     go_upto_region 11 with (fail)
     refine abs_world (P:=fun u=>Code.wp _ _ _ _ u) (R:=fun u=>Blk u q 61 (Hold.cells ⟨(r1:Int) - 1,((r9:Int) - 1),x8,1+(r2:Int),r3,(r3:Int) + 1+r4⟩).toArray∧Owns u w.heap.size 61 Hold.cells 9 (.slice A5 l.length c5) l∧IsTape u g b∧w.grownBy u (some g)) ⟨?_,?_,?_,?_⟩ ?_
     ·with_reducible refine Blk.eq ((((HX8.out.set_ 2 _).set_ 3 _).set_ 4 _).set_ 5 _) ?_
      simp [Hold.cells]
     ·repeat (first|with_reducible exact HO8.out|with_reducible refine Owns.far ?_ HFAR.out _)
     ·repeat (first|with_reducible exact HK8.out|with_reducible refine IsTape.far ?_ HFX.out.1 HFX.out.2.1 _)
     ·repeat (first|with_reducible exact HG8.out|with_reducible refine only_setCell ?_ (.inr HFX.out.2.2) _)
     clear f2 f3 f4 f5 a0 a1 a2 a3 a4 a5 a6 a7 a8 HX8 HO8 HK8 HG8
     rintro V ⟨hXV,hOV,hKV,hGV⟩
     have HXW:=qh hXV
     have HOW:=qh hOV
     have HKW:=qh hKV
     have HGW:=qh hGV
     clear hXV hOV hKV hGV
     obtain ⟨a0,a1,⟨a2,a3,a4,a5⟩,a6,a7,a8⟩:=Hold.blk HXW.out
     have hzU:=HXW.out.lt
     simp only at a0 a1 a2 a3 a4 a5 a6 a7 a8
     go_wp2_with (at_builtin;go_must (refine wpList_append_list _ rfl (.tmp 45) (.tmp 47) 40 rfl 61 i0 _ Hold.cells 9 88 Tryz.underlying40 hi0 hz0 hz1 hz2 rfl (by omega) hold_len hold_one w.heap.size (.slice A5 l.length c5) l rfl (HOW.out.alloc _) _ _ _ [(⟨(r1:Int) - 1,((r9:Int) - 1),x8,1+(r2:Int),r3,(r3:Int) + 1+r4⟩:Hold)] rfl rfl (Blk.one (enc:=Hold.cells) (x:=(⟨(r1:Int) - 1,((r9:Int) - 1),x8,1+(r2:Int),r3,(r3:Int) + 1+r4⟩:Hold)) (Blk.new' (by simp)) (by simp)) (by simp;omega) (by simp [maxLen];omega) (by have:=HGW.out.size;simp at this ⊢;omega) ?_);intro v' w6 hown' hg' hat';have HOWN':=qh hown';clear hown';have HK6:Hid (IsTape w6 g b):=(HKW.out.alloc _).grownO hg' (fun e=>by have:=hrow _ e.symm;omega) (fun e=>by have:=hrow _ e.symm;omega);have HG6:Hid (w.grownBy w6 (some g)):=grown_newO (grown_alloc HGW.out _) hg' hrow)
     go_roundw
     case rel=>exact ⟨m - 1,l ++ [(⟨(r1:Int) - 1,((r9:Int) - 1),x8,1+(r2:Int),r3,(r3:Int) + 1+r4⟩:Hold)],by omega,by go_num,HOWN'.out,by simp;omega,fun x hx=>by
      rcases List.mem_append.1 hx with h|h
      ·exact HSA.out x h
      ·obtain rfl:x=(⟨(r1:Int) - 1,((r9:Int) - 1),x8,1+(r2:Int),r3,(r3:Int) + 1+r4⟩:Hold):=by simpa using h
       exact (Nat.le_trans hs8 (by omega)),HK6.out,HG6.out⟩
     case measure=>simp [intOf];omega
   ·go_upto_region 9 with (fail)
    clear a0 a1 a2 a3 a4 a5 a6 a7 a8 f1
    have hX9:=HXU.out
    have HKU9:=HKU
    clear hX9
    go_wp2_with fail
    (with_reducible refine (tape_Next g b 3 _ HKU9.out (by omega) (by omega)).mono ?_)
    rintro e w7 ⟨r7,rfl,hr7,hk7,hg7⟩
    have hz7:=hg7.size
    have HX7:=qh (HXU.out.grown hg7 (fun e=>by injection e with e;omega))
    have HO7:=qh (HOU.out.grown hg7 hgl)
    have HK7:=qh hk7
    have HG7:=qh (grown_trans HGU.out hg7)
    clear hk7 hr7 HKU9
    by_cases h70:r7 = 0
    ·subst h70
     have HXW:=HX7
     have HOW:=HO7
     have HKW:=HK7
     have HGW:=HG7
     obtain ⟨a0,a1,⟨a2,a3,a4,a5⟩,a6,a7,a8⟩:=Hold.blk HXW.out
     have hzU:=HXW.out.lt
     simp only at a0 a1 a2 a3 a4 a5 a6 a7 a8
     go_wp2_with (at_builtin;go_must (refine wpList_append_list _ rfl (.tmp 45) (.tmp 47) 40 rfl 61 i0 _ Hold.cells 9 88 Tryz.underlying40 hi0 hz0 hz1 hz2 rfl (by omega) hold_len hold_one w.heap.size (.slice A5 l.length c5) l rfl (HOW.out.alloc _) _ _ _ [(⟨(r1:Int) - 1,(-1),noId,1+(r2:Int),r3,(r3:Int) + 1+r4⟩:Hold)] rfl rfl (Blk.one (enc:=Hold.cells) (x:=(⟨(r1:Int) - 1,(-1),noId,1+(r2:Int),r3,(r3:Int) + 1+r4⟩:Hold)) (Blk.new' (by simp)) (by simp)) (by simp;omega) (by simp [maxLen];omega) (by have:=HGW.out.size;simp at this ⊢;omega) ?_);intro v' w6 hown' hg' hat';have HOWN':=qh hown';clear hown';have HK6:Hid (IsTape w6 g b):=(HKW.out.alloc _).grownO hg' (fun e=>by have:=hrow _ e.symm;omega) (fun e=>by have:=hrow _ e.symm;omega);have HG6:Hid (w.grownBy w6 (some g)):=grown_newO (grown_alloc HGW.out _) hg' hrow)
     go_roundw
     case rel=>exact ⟨m - 1,l ++ [(⟨(r1:Int) - 1,(-1),noId,1+(r2:Int),r3,(r3:Int) + 1+r4⟩:Hold)],by omega,by go_num,HOWN'.out,by simp;omega,fun x hx=>by
      rcases List.mem_append.1 hx with h|h
      ·exact HSA.out x h
      ·obtain rfl:x=(⟨(r1:Int) - 1,(-1),noId,1+(r2:Int),r3,(r3:Int) + 1+r4⟩:Hold):=by simpa using h
       exact (Nat.zero_le _),HK6.out,HG6.out⟩
     case measure=>simp [intOf];omega
    ·have h70':(0:Int)<(r7:Int):=by omega
     clear h70
     go_wp2_with fail
     (with_reducible refine (tape_Identifier g b _ HK7.out).mono ?_)
     rintro e w8 ⟨x8,rfl,hv8,hs8,hk8,hg8⟩
     have hz8:=hg8.size
     have HX8:=qh (HX7.out.grown hg8 (fun e=>by injection e with e;omega))
     have HO8:=qh (HO7.out.grown hg8 hgl)
     have HK8:=qh hk8
     have HG8:=qh (grown_trans HG7.out hg8)
     have f2:=HX8.out.frozen 2
     have f3:=HX8.out.frozen 3
     have f4:=HX8.out.frozen 4
     have f5:=HX8.out.frozen 5
     obtain ⟨a0,a1,⟨a2,a3,a4,a5⟩,a6,a7,a8⟩:=Hold.blk HX8.out
     clear hk8 hv8
     go_upto_region 11 with (fail)
     refine abs_world (P:=fun u=>Code.wp _ _ _ _ u) (R:=fun u=>Blk u q 61 (Hold.cells ⟨(r1:Int) - 1,(-1),x8,1+(r2:Int),r3,(r3:Int) + 1+r4⟩).toArray∧Owns u w.heap.size 61 Hold.cells 9 (.slice A5 l.length c5) l∧IsTape u g b∧w.grownBy u (some g)) ⟨?_,?_,?_,?_⟩ ?_
     ·with_reducible refine Blk.eq ((((HX8.out.set_ 2 _).set_ 3 _).set_ 4 _).set_ 5 _) ?_
      simp [Hold.cells]
     ·repeat (first|with_reducible exact HO8.out|with_reducible refine Owns.far ?_ HFAR.out _)
     ·repeat (first|with_reducible exact HK8.out|with_reducible refine IsTape.far ?_ HFX.out.1 HFX.out.2.1 _)
     ·repeat (first|with_reducible exact HG8.out|with_reducible refine only_setCell ?_ (.inr HFX.out.2.2) _)
     clear f2 f3 f4 f5 a0 a1 a2 a3 a4 a5 a6 a7 a8 HX8 HO8 HK8 HG8
     rintro V ⟨hXV,hOV,hKV,hGV⟩
     have HXW:=qh hXV
     have HOW:=qh hOV
     have HKW:=qh hKV
     have HGW:=qh hGV
     clear hXV hOV hKV hGV
     obtain ⟨a0,a1,⟨a2,a3,a4,a5⟩,a6,a7,a8⟩:=Hold.blk HXW.out
     have hzU:=HXW.out.lt
     simp only at a0 a1 a2 a3 a4 a5 a6 a7 a8
     go_wp2_with (at_builtin;go_must (refine wpList_append_list _ rfl (.tmp 45) (.tmp 47) 40 rfl 61 i0 _ Hold.cells 9 88 Tryz.underlying40 hi0 hz0 hz1 hz2 rfl (by omega) hold_len hold_one w.heap.size (.slice A5 l.length c5) l rfl (HOW.out.alloc _) _ _ _ [(⟨(r1:Int) - 1,(-1),x8,1+(r2:Int),r3,(r3:Int) + 1+r4⟩:Hold)] rfl rfl (Blk.one (enc:=Hold.cells) (x:=(⟨(r1:Int) - 1,(-1),x8,1+(r2:Int),r3,(r3:Int) + 1+r4⟩:Hold)) (Blk.new' (by simp)) (by simp)) (by simp;omega) (by simp [maxLen];omega) (by have:=HGW.out.size;simp at this ⊢;omega) ?_);intro v' w6 hown' hg' hat';have HOWN':=qh hown';clear hown';have HK6:Hid (IsTape w6 g b):=(HKW.out.alloc _).grownO hg' (fun e=>by have:=hrow _ e.symm;omega) (fun e=>by have:=hrow _ e.symm;omega);have HG6:Hid (w.grownBy w6 (some g)):=grown_newO (grown_alloc HGW.out _) hg' hrow)
     go_roundw
     case rel=>exact ⟨m - 1,l ++ [(⟨(r1:Int) - 1,(-1),x8,1+(r2:Int),r3,(r3:Int) + 1+r4⟩:Hold)],by omega,by go_num,HOWN'.out,by simp;omega,fun x hx=>by
      rcases List.mem_append.1 hx with h|h
      ·exact HSA.out x h
      ·obtain rfl:x=(⟨(r1:Int) - 1,(-1),x8,1+(r2:Int),r3,(r3:Int) + 1+r4⟩:Hold):=by simpa using h
       exact (Nat.le_trans hs8 (by omega)),HK6.out,HG6.out⟩
     case measure=>simp [intOf];omega
  ·obtain rfl:m = 0:=by omega
   go_wp2_with fail
   go_ret
   exact ⟨_,l,rfl,hown,hsa,by omega,hkr,hgr⟩
end Go.Proofs.YtmckeeegphgekaaGreat
