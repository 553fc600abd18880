/-
  Contracts and plain laws of this seat, part 16: GenH, GenS, GenO.
-/
import Derived.Test.YtlpgmdhnjckplaaGreatV2
import Derived.Test.YtlpgmdhnjckplaaGreatV7
import Derived.Test.YtlpgmdhnjckplaaGreatV3
import Derived.Test.YtlpgmdhnjckplaaGreatV14
set_option linter.unusedVariables false
set_option linter.unusedSimpArgs false
set_option maxRecDepth 100000
set_option maxHeartbeats 16000000
namespace Go.Proofs.YtlpgmdhnjckplaaGreat
open Go.RowKit
theorem wrap_inH (n:Int) (h1 : -1000000≤n) (h2:n ≤ 1000000):IntKind.i64.wrap n=n:=by
 simp [IntKind.wrap,IntKind.bits,IntKind.signed]
 omega
theorem tape_Holds (g b n:Nat) (w:World) (hk:IsTape w g b) (hn:n ≤ 60) :
 Calls Tryz.prog 12 #[.pointer (some ⟨g,0,none⟩), .int .i64 n] w fun e w' =>
  ∃ v l,e = .returned v∧Owns w' w.heap.size 107 Hold.cells 9 v l∧SaneH l∧l.length≤n∧IsTape w' g b∧w.grownBy w' (some g):=by
 obtain ⟨i0,hi0,hz0,hz1,hz2⟩:=info_parts infoHold
 have hgl:=hk.ltg
 have hbl:=hk.lt
 have HK:=qh hk
 clear hk
 go_enter Tryz.func12,Tryz.ntmps12
 go_wp2_with fail
 refine (tape_Next g b ((n:Int) + 1) _ HK.out omA omA).mono ?_
 rintro e w0 ⟨r0,rfl,hr0,hk0,hg0⟩
 have hr0':r0≤n:=by rcases hr0 with h|h <;> omega
 have HK0:=qh hk0
 clear hk0
 go_wp2_with fail
 go_loopw [5,6] (fun vo vi wr => ∃ (m:Nat) (l:List Hold),m≤n∧vi = .int .i64 m∧Owns wr w.heap.size 107 Hold.cells 9 vo l∧l.length+m≤n∧SaneH l∧IsTape wr g b∧w.grownBy wr (some g)) (fun _ vi _=>(intOf vi).toNat)
 case atStart=>exact ⟨r0,[],hr0',rfl,Owns.nil,by simpa using hr0',fun x hx=>by simp at hx,HK0.out,hg0⟩
 case round =>
  obtain ⟨m,l,hm,rfl,hown,hlm,hsa,hkr,hgr⟩:=hrel
  have HKR:=qh hkr
  have HSA:=qh hsa
  have hzr:=hgr.size
  by_cases hm0 : 0<m
  ·have hm0':(0:Int)<(m:Int):=by omega
   obtain ⟨A5,c5,rfl,hc5,hsl,hA5⟩:=hown.slice hold_len
   have HOR:=qh hown
   have hrow:=hown.row
   clear hown hsa hkr hsl
   go_wp2_with fail
   refine (tape_Next g b 4 _ HKR.out omA omA).mono ?_
   rintro e w1 ⟨r1,rfl,hr1,hk1,hg1⟩
   have hr1':r1 < 4:=by rcases hr1 with h|h <;> omega
   have HK1:=qh hk1
   clear hk1 hr1
   go_wp2_with fail
   refine (tape_Next g b 15 _ HK1.out omA omA).mono ?_
   rintro e w2 ⟨r2,rfl,hr2,hk2,hg2⟩
   have hr2':r2 < 15:=by rcases hr2 with h|h <;> omega
   have HK2:=qh hk2
   clear hk2 hr2
   go_wp2_with fail
   refine (tape_Next g b 20 _ HK2.out omA omA).mono ?_
   rintro e w3 ⟨r3,rfl,hr3,hk3,hg3⟩
   have hr3':r3 < 20:=by rcases hr3 with h|h <;> omega
   have HK3:=qh hk3
   have hg03:w.grownBy w3 (some g):=grown_trans (grown_trans (grown_trans hgr hg1) hg2) hg3
   have HO3:Hid (Owns w3 w.heap.size 107 Hold.cells 9 (.slice A5 l.length c5) l):=((HOR.out.grown hg1 hgl).grown hg2 hgl).grown hg3 hgl
   have hz3:=hg03.size
   obtain ⟨q,hq⟩ : ∃ q,w3.heap.size=q:=⟨_,rfl⟩
   have hfar : ∀ q',(Value.slice A5 l.length c5).ownBlock=some q'→q'≠q:=fun q' e=>by have:=HO3.out.lt q' e;omega
   have HFAR:=qh hfar
   have HFX:=qh (And.intro (show g≠q by omega) (And.intro (show b≠q by omega) (show w.heap.size≤q by omega)))
   clear hk3 hr3 hfar hgr hg1 hg2 hg3
   go_upto_region 6 with (fail)
   refine abs_world (P:=fun u=>Code.wp _ _ _ _ u) (R:=fun u=>Blk u q 107 (Hold.cells ⟨(r1:Int) - 1,-1,noId,1+(r2:Int),r3,0⟩).toArray∧Owns u w.heap.size 107 Hold.cells 9 (.slice A5 l.length c5) l∧IsTape u g b∧w.grownBy u (some g)) ⟨?_,?_,?_,?_⟩ ?_
   ·rw [← hq]
    exact Blk.new _ _ _
   ·exact HO3.out.alloc _
   ·exact HK3.out.alloc _
   ·exact grown_alloc hg03 _
   rintro U ⟨hXU,hOU,hKU,hGU⟩
   have HXU:=qh hXU
   have HOU:=qh hOU
   have HKU:=qh hKU
   have HGU:=qh hGU
   have hzU:=hXU.lt
   clear hOU hKU hGU HOR HO3 HK3 hg03
   refine wp_region_T (S:=(fun w'=>Blk w' q 107 (Hold.cells ⟨(r1:Int) - 1,-1,noId,1+(r2:Int),r3,0⟩).toArray)) [7] krA hXU.drew (fun hHeld => ?_)
   clear hXU
   refine tkT 0 hHeld ?_ (hy:=by intro w' hSw;obtain ⟨sa0,sa1,⟨sa2,sa3,sa4,sa5⟩,sa6,sa7,sa8⟩:=Hold.blk hSw;simp only at sa0 sa1 sa2 sa3 sa4 sa5 sa6 sa7 sa8;clear hSw;go_simp;first|done|with_reducible rfl)
   refine tkT 1 hHeld ?_ (hy:=by intro w' hSw;obtain ⟨sa0,sa1,⟨sa2,sa3,sa4,sa5⟩,sa6,sa7,sa8⟩:=Hold.blk hSw;simp only at sa0 sa1 sa2 sa3 sa4 sa5 sa6 sa7 sa8;clear hSw;go_simp;first|done|with_reducible rfl)
   refine tkT 2 hHeld ?_ (hy:=by intro w' hSw;obtain ⟨sa0,sa1,⟨sa2,sa3,sa4,sa5⟩,sa6,sa7,sa8⟩:=Hold.blk hSw;simp only at sa0 sa1 sa2 sa3 sa4 sa5 sa6 sa7 sa8;clear hSw;go_simp;first|done|with_reducible rfl)
   refine tkT 3 hHeld ?_ (hy:=by intro w' hSw;obtain ⟨sa0,sa1,⟨sa2,sa3,sa4,sa5⟩,sa6,sa7,sa8⟩:=Hold.blk hSw;simp only at sa0 sa1 sa2 sa3 sa4 sa5 sa6 sa7 sa8;clear hSw;go_simp;first|done|with_reducible rfl)
   refine r1T 4 (fun K hK => ?_)
   go_simp
   (go_at_call 15;(with_reducible refine (tape_Next g b 12 _ ?_ omA omA).mono ?_))
   focus (first|with_reducible exact HKU.out|(with_reducible refine IsTape.below (w:=U) HKU.out ?_;exact belA))
   rintro e w4 ⟨r4,rfl,hr4,hk4,hg4⟩
   have hr4':r4 < 12:=by rcases hr4 with h|h <;> omega
   have hgU4:U.grownBy w4 (some g):=grown_trans (grown_start _ belA) hg4
   have hz4:=hgU4.size
   have HX4:=qh (HXU.out.grown hgU4 (fun e=>by injection e with e;omega))
   have HO4:=qh (HOU.out.grown hgU4 hgl)
   have HK4:=qh hk4
   have HG4:=qh (grown_trans HGU.out hgU4)
   clear hk4 hr4
   go_wp2_with fail
   refine hK.out _ _ _ HX4.out (fun hHeld => ?_)
   clear hK K
   refine tkT 5 hHeld ?_ (hy:=by intro w' hSw;obtain ⟨sa0,sa1,⟨sa2,sa3,sa4,sa5⟩,sa6,sa7,sa8⟩:=Hold.blk hSw;simp only at sa0 sa1 sa2 sa3 sa4 sa5 sa6 sa7 sa8;clear hSw;go_simp;first|done|with_reducible rfl)
   refine tkT 6 hHeld ?_ (hy:=by intro w' hSw;obtain ⟨sa0,sa1,⟨sa2,sa3,sa4,sa5⟩,sa6,sa7,sa8⟩:=Hold.blk hSw;simp only at sa0 sa1 sa2 sa3 sa4 sa5 sa6 sa7 sa8;clear hSw;go_simp;first|done|with_reducible rfl)
   refine rzT 7 (fun K hK => ?_)
   clear hHeld
   obtain ⟨a0,a1,⟨a2,a3,a4,a5⟩,a6,a7,a8⟩:=Hold.blk HX4.out
   have f8:=HX4.out.frozen 8
   simp only at a0 a1 a2 a3 a4 a5 a6 a7 a8
   go_simp
   refine hK.out _ _ _ ?_
   clear hK K
   refine wpT_done krA ?_ _
   go_upto_region 7 with (fail)
   refine abs_world (P:=fun u=>Code.wp _ _ _ _ u) (R:=fun u=>Blk u q 107 (Hold.cells ⟨(r1:Int) - 1,-1,noId,1+(r2:Int),r3,(r3:Int) + 1+r4⟩).toArray∧Owns u w.heap.size 107 Hold.cells 9 (.slice A5 l.length c5) l∧IsTape u g b∧w.grownBy u (some g)) ⟨?_,?_,?_,?_⟩ ?_
   ·with_reducible refine Blk.eq (HX4.out.set_ 8 _) ?_
    simp [Hold.cells]
    rw [wrap_inH ((r3:Int) + 1) omA omA,wrap_inH _ omA omA]
   ·with_reducible exact HO4.out.far HFAR.out _
   ·with_reducible exact HK4.out.far HFX.out.1 HFX.out.2.1 _
   ·with_reducible exact only_setCell HG4.out (.inr HFX.out.2.2) _
   clear a0 a1 a2 a3 a4 a5 a6 a7 a8 f8 HX4 HO4 HK4 HG4 HXU HOU HKU HGU hzU hgU4 hg4 hz4
   rintro V ⟨hXV,hOV,hKV,hGV⟩
   have HXU:=qh hXV
   have HOU:=qh hOV
   have HKU:=qh hKV
   have HGU:=qh hGV
   have hzU:=hXV.lt
   obtain ⟨a0,a1,⟨a2,a3,a4,a5⟩,a6,a7,a8⟩:=Hold.blk hXV
   simp only at a0 a1 a2 a3 a4 a5 a6 a7 a8
   have f1:=hXV.frozen 1
   clear hXV hOV hKV hGV
   by_cases ht:(0:Int)≤(r1:Int) - 1
   ·go_wp2_with fail
    (with_reducible refine (tape_Next g b 4 _ HKU.out omA omA).mono ?_)
    rintro e w9 ⟨r9,rfl,hr9,hk9,hg9⟩
    have hr9':r9 < 4:=by rcases hr9 with h|h <;> omega
    have hz9:=hg9.size
    have HX9:=qh (HXU.out.grown hg9 (fun e=>by injection e with e;omega))
    have HO9:=qh (HOU.out.grown hg9 hgl)
    have HK9:=qh hk9
    have HG9:=qh (grown_trans HGU.out hg9)
    clear a0 a1 a2 a3 a4 a5 a6 a7 a8 f1 hk9 hr9
    obtain ⟨a0,a1,⟨a2,a3,a4,a5⟩,a6,a7,a8⟩:=Hold.blk HX9.out
    have f1:=HX9.out.frozen 1
    go_upto_region 9 with (fail)
    refine abs_world (P:=fun u=>Code.wp _ _ _ _ u) (R:=fun u=>Blk u q 107 (Hold.cells ⟨(r1:Int) - 1,(r9:Int) - 1,noId,1+(r2:Int),r3,(r3:Int) + 1+r4⟩).toArray∧Owns u w.heap.size 107 Hold.cells 9 (.slice A5 l.length c5) l∧IsTape u g b∧w.grownBy u (some g)) ⟨?_,?_,?_,?_⟩ ?_
    ·with_reducible refine Blk.eq (HX9.out.set_ 1 _) ?_
     simp [Hold.cells]
    ·with_reducible exact HO9.out.far HFAR.out _
    ·with_reducible exact HK9.out.far HFX.out.1 HFX.out.2.1 _
    ·with_reducible exact only_setCell HG9.out (.inr HFX.out.2.2) _
    clear a0 a1 a2 a3 a4 a5 a6 a7 a8 f1 HX9 HO9 HK9 HG9 HXU HOU HKU HGU hzU hg9 hz9
    rintro V9 ⟨hXV,hOV,hKV,hGV⟩
    have HXU:=qh hXV
    have HOU:=qh hOV
    have HKU:=qh hKV
    have HGU:=qh hGV
    have hzU:=hXV.lt
    clear hXV hOV hKV hGV
    have hX9:=HXU.out
    have HKU9:=HKU
    clear hX9
    go_wp2_with fail
    (with_reducible refine (tape_Next g b 3 _ HKU9.out omA omA).mono ?_)
    rintro e w7 ⟨r7,rfl,hr7,hk7,hg7⟩
    have hz7:=hg7.size
    have HX7:=qh (HXU.out.grown hg7 (fun e=>by injection e with e;omega))
    have HO7:=qh (HOU.out.grown hg7 hgl)
    have HK7:=qh hk7
    have HG7:=qh (grown_trans HGU.out hg7)
    clear hk7 hr7 HKU9
    by_cases h70:r7 = 0
    ·subst h70
     have HXW:=HX7
     have HOW:=HO7
     have HKW:=HK7
     have HGW:=HG7
     obtain ⟨a0,a1,⟨a2,a3,a4,a5⟩,a6,a7,a8⟩:=Hold.blk HXW.out
     have hzU:=HXW.out.lt
     simp only at a0 a1 a2 a3 a4 a5 a6 a7 a8
     go_wp2_with (at_builtin;go_must (refine wpList_append_list _ rfl (.tmp 45) (.tmp 47) 40 rfl 107 i0 _ Hold.cells 9 88 Tryz.underlying40 hi0 hz0 hz1 hz2 rfl omA hold_len hold_one w.heap.size (.slice A5 l.length c5) l rfl (HOW.out.alloc _) _ _ _ [(⟨(r1:Int) - 1,((r9:Int) - 1),noId,1+(r2:Int),r3,(r3:Int) + 1+r4⟩:Hold)] rfl rfl (Blk.one (enc:=Hold.cells) (x:=(⟨(r1:Int) - 1,((r9:Int) - 1),noId,1+(r2:Int),r3,(r3:Int) + 1+r4⟩:Hold)) (Blk.new' spA) spA) smA mxA (by have:=HGW.out.size;simp at this ⊢;omega) ?_);intro v' w6 hown' hg' hat';have HOWN':=qh hown';clear hown';have HK6:Hid (IsTape w6 g b):=(HKW.out.alloc _).grownO hg' (fun e=>by have:=hrow _ e.symm;omega) (fun e=>by have:=hrow _ e.symm;omega);have HG6:Hid (w.grownBy w6 (some g)):=grown_newO (grown_alloc HGW.out _) hg' hrow)
     go_roundw
     case rel=>exact ⟨m - 1,l ++ [(⟨(r1:Int) - 1,((r9:Int) - 1),noId,1+(r2:Int),r3,(r3:Int) + 1+r4⟩:Hold)],by omega,by go_num,HOWN'.out,by simp;omega,fun x hx=>by
      rcases List.mem_append.1 hx with h|h
      ·exact HSA.out x h
      ·obtain rfl:x=(⟨(r1:Int) - 1,((r9:Int) - 1),noId,1+(r2:Int),r3,(r3:Int) + 1+r4⟩:Hold):=by simpa using h
       exact (Nat.zero_le _),HK6.out,HG6.out⟩
     case measure=>simp [intOf];omega
    ·have h70':(0:Int)<(r7:Int):=by omega
     clear h70
     go_wp2_with fail
     (with_reducible refine (tape_Identifier g b _ HK7.out).mono ?_)
     rintro e w8 ⟨x8,rfl,hv8,hs8,hk8,hg8⟩
     have hz8:=hg8.size
     have HX8:=qh (HX7.out.grown hg8 (fun e=>by injection e with e;omega))
     have HO8:=qh (HO7.out.grown hg8 hgl)
     have HK8:=qh hk8
     have HG8:=qh (grown_trans HG7.out hg8)
     have f2:=HX8.out.frozen 2
     have f3:=HX8.out.frozen 3
     have f4:=HX8.out.frozen 4
     have f5:=HX8.out.frozen 5
     obtain ⟨a0,a1,⟨a2,a3,a4,a5⟩,a6,a7,a8⟩:=Hold.blk HX8.out
     clear hk8 hv8
     go_upto_region 11 with (fail)
     refine abs_world (P:=fun u=>Code.wp _ _ _ _ u) (R:=fun u=>Blk u q 107 (Hold.cells ⟨(r1:Int) - 1,((r9:Int) - 1),x8,1+(r2:Int),r3,(r3:Int) + 1+r4⟩).toArray∧Owns u w.heap.size 107 Hold.cells 9 (.slice A5 l.length c5) l∧IsTape u g b∧w.grownBy u (some g)) ⟨?_,?_,?_,?_⟩ ?_
     ·with_reducible refine Blk.eq ((((HX8.out.set_ 2 _).set_ 3 _).set_ 4 _).set_ 5 _) ?_
      simp [Hold.cells]
     ·repeat (first|with_reducible exact HO8.out|with_reducible refine Owns.far ?_ HFAR.out _)
     ·repeat (first|with_reducible exact HK8.out|with_reducible refine IsTape.far ?_ HFX.out.1 HFX.out.2.1 _)
     ·repeat (first|with_reducible exact HG8.out|with_reducible refine only_setCell ?_ (.inr HFX.out.2.2) _)
     clear f2 f3 f4 f5 a0 a1 a2 a3 a4 a5 a6 a7 a8 HX8 HO8 HK8 HG8
     rintro V ⟨hXV,hOV,hKV,hGV⟩
     have HXW:=qh hXV
     have HOW:=qh hOV
     have HKW:=qh hKV
     have HGW:=qh hGV
     clear hXV hOV hKV hGV
     obtain ⟨a0,a1,⟨a2,a3,a4,a5⟩,a6,a7,a8⟩:=Hold.blk HXW.out
     have hzU:=HXW.out.lt
     simp only at a0 a1 a2 a3 a4 a5 a6 a7 a8
     go_wp2_with (at_builtin;go_must (refine wpList_append_list _ rfl (.tmp 45) (.tmp 47) 40 rfl 107 i0 _ Hold.cells 9 88 Tryz.underlying40 hi0 hz0 hz1 hz2 rfl omA hold_len hold_one w.heap.size (.slice A5 l.length c5) l rfl (HOW.out.alloc _) _ _ _ [(⟨(r1:Int) - 1,((r9:Int) - 1),x8,1+(r2:Int),r3,(r3:Int) + 1+r4⟩:Hold)] rfl rfl (Blk.one (enc:=Hold.cells) (x:=(⟨(r1:Int) - 1,((r9:Int) - 1),x8,1+(r2:Int),r3,(r3:Int) + 1+r4⟩:Hold)) (Blk.new' spA) spA) smA mxA (by have:=HGW.out.size;simp at this ⊢;omega) ?_);intro v' w6 hown' hg' hat';have HOWN':=qh hown';clear hown';have HK6:Hid (IsTape w6 g b):=(HKW.out.alloc _).grownO hg' (fun e=>by have:=hrow _ e.symm;omega) (fun e=>by have:=hrow _ e.symm;omega);have HG6:Hid (w.grownBy w6 (some g)):=grown_newO (grown_alloc HGW.out _) hg' hrow)
     go_roundw
     case rel=>exact ⟨m - 1,l ++ [(⟨(r1:Int) - 1,((r9:Int) - 1),x8,1+(r2:Int),r3,(r3:Int) + 1+r4⟩:Hold)],by omega,by go_num,HOWN'.out,by simp;omega,fun x hx=>by
      rcases List.mem_append.1 hx with h|h
      ·exact HSA.out x h
      ·obtain rfl:x=(⟨(r1:Int) - 1,((r9:Int) - 1),x8,1+(r2:Int),r3,(r3:Int) + 1+r4⟩:Hold):=by simpa using h
       exact (Nat.le_trans hs8 omA),HK6.out,HG6.out⟩
     case measure=>simp [intOf];omega
   ·go_upto_region 9 with (fail)
    clear a0 a1 a2 a3 a4 a5 a6 a7 a8 f1
    have hX9:=HXU.out
    have HKU9:=HKU
    clear hX9
    go_wp2_with fail
    (with_reducible refine (tape_Next g b 3 _ HKU9.out omA omA).mono ?_)
    rintro e w7 ⟨r7,rfl,hr7,hk7,hg7⟩
    have hz7:=hg7.size
    have HX7:=qh (HXU.out.grown hg7 (fun e=>by injection e with e;omega))
    have HO7:=qh (HOU.out.grown hg7 hgl)
    have HK7:=qh hk7
    have HG7:=qh (grown_trans HGU.out hg7)
    clear hk7 hr7 HKU9
    by_cases h70:r7 = 0
    ·subst h70
     have HXW:=HX7
     have HOW:=HO7
     have HKW:=HK7
     have HGW:=HG7
     obtain ⟨a0,a1,⟨a2,a3,a4,a5⟩,a6,a7,a8⟩:=Hold.blk HXW.out
     have hzU:=HXW.out.lt
     simp only at a0 a1 a2 a3 a4 a5 a6 a7 a8
     go_wp2_with (at_builtin;go_must (refine wpList_append_list _ rfl (.tmp 45) (.tmp 47) 40 rfl 107 i0 _ Hold.cells 9 88 Tryz.underlying40 hi0 hz0 hz1 hz2 rfl omA hold_len hold_one w.heap.size (.slice A5 l.length c5) l rfl (HOW.out.alloc _) _ _ _ [(⟨(r1:Int) - 1,(-1),noId,1+(r2:Int),r3,(r3:Int) + 1+r4⟩:Hold)] rfl rfl (Blk.one (enc:=Hold.cells) (x:=(⟨(r1:Int) - 1,(-1),noId,1+(r2:Int),r3,(r3:Int) + 1+r4⟩:Hold)) (Blk.new' spA) spA) smA mxA (by have:=HGW.out.size;simp at this ⊢;omega) ?_);intro v' w6 hown' hg' hat';have HOWN':=qh hown';clear hown';have HK6:Hid (IsTape w6 g b):=(HKW.out.alloc _).grownO hg' (fun e=>by have:=hrow _ e.symm;omega) (fun e=>by have:=hrow _ e.symm;omega);have HG6:Hid (w.grownBy w6 (some g)):=grown_newO (grown_alloc HGW.out _) hg' hrow)
     go_roundw
     case rel=>exact ⟨m - 1,l ++ [(⟨(r1:Int) - 1,(-1),noId,1+(r2:Int),r3,(r3:Int) + 1+r4⟩:Hold)],by omega,by go_num,HOWN'.out,by simp;omega,fun x hx=>by
      rcases List.mem_append.1 hx with h|h
      ·exact HSA.out x h
      ·obtain rfl:x=(⟨(r1:Int) - 1,(-1),noId,1+(r2:Int),r3,(r3:Int) + 1+r4⟩:Hold):=by simpa using h
       exact (Nat.zero_le _),HK6.out,HG6.out⟩
     case measure=>simp [intOf];omega
    ·have h70':(0:Int)<(r7:Int):=by omega
     clear h70
     go_wp2_with fail
     (with_reducible refine (tape_Identifier g b _ HK7.out).mono ?_)
     rintro e w8 ⟨x8,rfl,hv8,hs8,hk8,hg8⟩
     have hz8:=hg8.size
     have HX8:=qh (HX7.out.grown hg8 (fun e=>by injection e with e;omega))
     have HO8:=qh (HO7.out.grown hg8 hgl)
     have HK8:=qh hk8
     have HG8:=qh (grown_trans HG7.out hg8)
     have f2:=HX8.out.frozen 2
     have f3:=HX8.out.frozen 3
     have f4:=HX8.out.frozen 4
     have f5:=HX8.out.frozen 5
     obtain ⟨a0,a1,⟨a2,a3,a4,a5⟩,a6,a7,a8⟩:=Hold.blk HX8.out
     clear hk8 hv8
     go_upto_region 11 with (fail)
     refine abs_world (P:=fun u=>Code.wp _ _ _ _ u) (R:=fun u=>Blk u q 107 (Hold.cells ⟨(r1:Int) - 1,(-1),x8,1+(r2:Int),r3,(r3:Int) + 1+r4⟩).toArray∧Owns u w.heap.size 107 Hold.cells 9 (.slice A5 l.length c5) l∧IsTape u g b∧w.grownBy u (some g)) ⟨?_,?_,?_,?_⟩ ?_
     ·with_reducible refine Blk.eq ((((HX8.out.set_ 2 _).set_ 3 _).set_ 4 _).set_ 5 _) ?_
      simp [Hold.cells]
     ·repeat (first|with_reducible exact HO8.out|with_reducible refine Owns.far ?_ HFAR.out _)
     ·repeat (first|with_reducible exact HK8.out|with_reducible refine IsTape.far ?_ HFX.out.1 HFX.out.2.1 _)
     ·repeat (first|with_reducible exact HG8.out|with_reducible refine only_setCell ?_ (.inr HFX.out.2.2) _)
     clear f2 f3 f4 f5 a0 a1 a2 a3 a4 a5 a6 a7 a8 HX8 HO8 HK8 HG8
     rintro V ⟨hXV,hOV,hKV,hGV⟩
     have HXW:=qh hXV
     have HOW:=qh hOV
     have HKW:=qh hKV
     have HGW:=qh hGV
     clear hXV hOV hKV hGV
     obtain ⟨a0,a1,⟨a2,a3,a4,a5⟩,a6,a7,a8⟩:=Hold.blk HXW.out
     have hzU:=HXW.out.lt
     simp only at a0 a1 a2 a3 a4 a5 a6 a7 a8
     go_wp2_with (at_builtin;go_must (refine wpList_append_list _ rfl (.tmp 45) (.tmp 47) 40 rfl 107 i0 _ Hold.cells 9 88 Tryz.underlying40 hi0 hz0 hz1 hz2 rfl omA hold_len hold_one w.heap.size (.slice A5 l.length c5) l rfl (HOW.out.alloc _) _ _ _ [(⟨(r1:Int) - 1,(-1),x8,1+(r2:Int),r3,(r3:Int) + 1+r4⟩:Hold)] rfl rfl (Blk.one (enc:=Hold.cells) (x:=(⟨(r1:Int) - 1,(-1),x8,1+(r2:Int),r3,(r3:Int) + 1+r4⟩:Hold)) (Blk.new' spA) spA) smA mxA (by have:=HGW.out.size;simp at this ⊢;omega) ?_);intro v' w6 hown' hg' hat';have HOWN':=qh hown';clear hown';have HK6:Hid (IsTape w6 g b):=(HKW.out.alloc _).grownO hg' (fun e=>by have:=hrow _ e.symm;omega) (fun e=>by have:=hrow _ e.symm;omega);have HG6:Hid (w.grownBy w6 (some g)):=grown_newO (grown_alloc HGW.out _) hg' hrow)
     go_roundw
     case rel=>exact ⟨m - 1,l ++ [(⟨(r1:Int) - 1,(-1),x8,1+(r2:Int),r3,(r3:Int) + 1+r4⟩:Hold)],by omega,by go_num,HOWN'.out,by simp;omega,fun x hx=>by
      rcases List.mem_append.1 hx with h|h
      ·exact HSA.out x h
      ·obtain rfl:x=(⟨(r1:Int) - 1,(-1),x8,1+(r2:Int),r3,(r3:Int) + 1+r4⟩:Hold):=by simpa using h
       exact (Nat.le_trans hs8 omA),HK6.out,HG6.out⟩
     case measure=>simp [intOf];omega
  ·obtain rfl:m = 0:=by omega
   go_wp2_with fail
   go_ret
   exact ⟨_,l,rfl,hown,hsa,by omega,hkr,hgr⟩
theorem saneH_set {l:List Hold} (hs:SaneH l) (i:Nat) {x:Hold} (hx:x.who.ns.size ≤ 1000000):SaneH (l.set i x):=by
 intro y hy
 rcases List.mem_or_eq_of_mem_set hy with h|rfl
 ·exact hs y h
 ·exact hx
def SpoiltH (w w':World) (g b n:Nat) (v:Value):Prop := ∃ out:List Hold,Owns w' w.heap.size 107 Hold.cells 9 v out∧SaneH out∧out.length≤n + 1∧IsTape w' g b∧w.grownBy w' (some g)
theorem tape_SpoilHolds (g b:Nat) (A:Option Addr) (c n:Nat) (l:List Hold) (w:World) (hk:IsTape w g b) (hl:SliceIs w w.heap.size Hold.cells 9 A l) (hln:l.length=n) (hn:n ≤ 1000) (hs:SaneH l) :
 Calls Tryz.prog 16 #[.pointer (some ⟨g,0,none⟩), .slice A n c] w fun e w' =>
  ∃ v,e = .returned v∧SpoiltH w w' g b n v:=by
 subst hln
 obtain ⟨i0,hi0,hz0,hz1,hz2⟩:=info_parts infoHold
 have hgl:=hk.ltg
 have hbl:=hk.lt
 have HK:=qh hk
 have HL:=qh hl
 have HS:=qh hs
 clear hk hl hs
 by_cases h0:l.length = 0
 ·have h0':((l.length:Int) == 0)=true:=by rw [h0];rfl
  clear hi0 hz0 hz1 hz2
  go_enter Tryz.func16,Tryz.ntmps16
  go_wp2
  go_ret
  refine ⟨_,rfl,[⟨0,0,noId,0,0,0⟩],Owns.one (Blk.new' rfl) (Nat.le_refl _) hold_len,?_,by simp,HK.out.alloc _,only_of_below belA _⟩
  intro x hx
  obtain rfl:=List.mem_singleton.1 hx
  exact Nat.zero_le _
 ·have h0':((l.length:Int) == 0)=false:=by rw [beq_eq_false_iff_ne];omega
  have hA : ∃ b5 o5,A=some ⟨b5,o5,none⟩:=by
   obtain ⟨b5,o5,h,_⟩:=HL.out omA
   exact ⟨b5,o5,h⟩
  go_enter Tryz.func16,Tryz.ntmps16
  go_upto_region 3 with (fail)
  go_wp2_with ((at_builtin;go_must (refine wpList_append_list _ rfl (.tmp 12) (.tmp 13) 40 rfl 107 i0 _ Hold.cells 9 88 Tryz.underlying40 hi0 hz0 hz1 hz2 rfl omA hold_len hold_one w.heap.size (.slice (some ⟨w.heap.size,0,none⟩) 0 0) [] rfl (Owns.empty (Blk.new' rfl) (Nat.le_refl _)) _ _ _ l rfl rfl (HL.out.next belA) smA mxA spA ?_);intro v' w1 hown' hg' hat';have hbel:Below w.heap.size w w1:=Below.grown belA hg' spA (own_row (Nat.le_refl _));rw [List.nil_append] at hown';obtain ⟨b1,cap,rfl,hbb⟩:=hat'.elim (fun h=>hown'.some_form h) (fun h=>hown'.some_form h);have HOWN':=qh hown';clear hown'))
  have HK1:Hid (IsTape w1 g b):=HK.out.below hbel
  have hG1:w.grownBy w1 (some g):=only_of_below hbel _
  clear hg' hat' HK HL hi0 hz0 hz1 hz2
  with_reducible refine (tape_Next g b (l.length:Int) _ HK1.out omA omA).mono ?_
  rintro e w2 ⟨r1,rfl,hr1,hk2,hg2⟩
  have hr1':r1<l.length:=by rcases hr1 with h|h <;> omega
  have HO2:=qh (HOWN'.out.grown hg2 omA)
  have hG2:=grown_trans hG1 hg2
  have HK2:=qh hk2
  clear HOWN' hg2 hk2 HK1 hG1 hr1
  go_wp2_with fail
  with_reducible refine (tape_Next g b 7 _ HK2.out omA omA).mono ?_
  rintro e w3 ⟨r2,rfl,hr2,hk3,hg3⟩
  have hr2':r2 < 7:=by rcases hr2 with h|h <;> omega
  have HO3:=qh (HO2.out.grown hg3 omA)
  have hG3:=grown_trans hG2 hg3
  have HK3:=qh hk3
  have hb1:=HO3.out.blk_lt
  clear HO2 hg3 hk3 HK2 hG2 hr2
  rcases (show r2 = 0∨r2 = 1∨r2 = 2∨r2 = 3∨r2 = 4∨r2 = 5∨r2 = 6 by omega) with rfl|rfl|rfl|rfl|rfl|rfl|rfl
  ·go_wp2_with fail
   refine (tape_Next g b 4 _ (HK3.out.alloc _) omA omA).mono ?_
   rintro e w4 ⟨r3,rfl,hr3,hk4,hg4⟩
   have hr3':r3 < 4:=by rcases hr3 with h|h <;> omega
   have HO4:=qh ((HO3.out.alloc _).grown hg4 omA)
   have hG4:=grown_trans (grown_alloc hG3 _) hg4
   have HK4:=qh hk4
   have hS4:=Blk.grown (Blk.new _ _ _) hg4 (fun e=>by injection e with e;have:=hG3.size;omega)
   have hz4:=hS4.lt
   obtain ⟨a0,a1,⟨a2,a3,a4,a5⟩,s6,s7,s8⟩:=Hold.cells9 (b:=b1) (o:=r1 * 9) (x:=l[r1]) (fun j u hu=>HO4.out.getc hold_len hr1' hu)
   have hfz : ∀ j,w4.frozen? ⟨b1,j,none⟩=false:=fun j=>HO4.out.frz j
   clear hk4 hr3
   obtain ⟨z,hz⟩ : ∃ z:Int,w4.cell? ⟨w3.heap.size,r3,none⟩=some (.int .i64 z):=by
    rw [hS4.cell]
    rcases (show r3 = 0∨r3 = 1∨r3 = 2∨r3 = 3 by omega) with rfl|rfl|rfl|rfl
    all_goals exact ⟨_,rfl⟩
   clear hS4 hg4
   go_wp2_with fail
   go_ret
   have hsx:=HS.out _ (List.getElem_mem hr1')
   exact ⟨_,rfl,l.set r1 ⟨z,l[r1].column,l[r1].who,l[r1].seq,l[r1].day0,l[r1].day1⟩,HO4.out.store1 hold_len rfl hr1' _ (j := 0) omA rfl rfl,saneH_set HS.out _ hsx,by simp,HK4.out.far smA smA _,only_setCell hG4 (.inr smA) _⟩
  ·go_wp2_with fail
   refine (tape_Next g b 4 _ (HK3.out.alloc _) omA omA).mono ?_
   rintro e w4 ⟨r3,rfl,hr3,hk4,hg4⟩
   have hr3':r3 < 4:=by rcases hr3 with h|h <;> omega
   have HO4:=qh ((HO3.out.alloc _).grown hg4 omA)
   have hG4:=grown_trans (grown_alloc hG3 _) hg4
   have HK4:=qh hk4
   have hS4:=Blk.grown (Blk.new _ _ _) hg4 (fun e=>by injection e with e;have:=hG3.size;omega)
   have hz4:=hS4.lt
   obtain ⟨a0,a1,⟨a2,a3,a4,a5⟩,s6,s7,s8⟩:=Hold.cells9 (b:=b1) (o:=r1 * 9) (x:=l[r1]) (fun j u hu=>HO4.out.getc hold_len hr1' hu)
   have hfz : ∀ j,w4.frozen? ⟨b1,j,none⟩=false:=fun j=>HO4.out.frz j
   clear hk4 hr3
   obtain ⟨z,hz⟩ : ∃ z:Int,w4.cell? ⟨w3.heap.size,r3,none⟩=some (.int .i64 z):=by
    rw [hS4.cell]
    rcases (show r3 = 0∨r3 = 1∨r3 = 2∨r3 = 3 by omega) with rfl|rfl|rfl|rfl
    all_goals exact ⟨_,rfl⟩
   clear hS4 hg4
   go_wp2_with fail
   go_ret
   have hsx:=HS.out _ (List.getElem_mem hr1')
   exact ⟨_,rfl,l.set r1 ⟨l[r1].table,z,l[r1].who,l[r1].seq,l[r1].day0,l[r1].day1⟩,HO4.out.store1 hold_len rfl hr1' _ (j := 1) omA rfl rfl,saneH_set HS.out _ hsx,by simp,HK4.out.far smA smA _,only_setCell hG4 (.inr smA) _⟩
  ·go_wp2_with fail
   refine (tape_Next g b 3 _ (HK3.out.alloc _) omA omA).mono ?_
   rintro e w4 ⟨r3,rfl,hr3,hk4,hg4⟩
   have hr3':r3 < 3:=by rcases hr3 with h|h <;> omega
   have HO4:=qh ((HO3.out.alloc _).grown hg4 omA)
   have hG4:=grown_trans (grown_alloc hG3 _) hg4
   have HK4:=qh hk4
   have hS4:=Blk.grown (Blk.new _ _ _) hg4 (fun e=>by injection e with e;have:=hG3.size;omega)
   have hz4:=hS4.lt
   obtain ⟨a0,a1,⟨a2,a3,a4,a5⟩,s6,s7,s8⟩:=Hold.cells9 (b:=b1) (o:=r1 * 9) (x:=l[r1]) (fun j u hu=>HO4.out.getc hold_len hr1' hu)
   have hfz : ∀ j,w4.frozen? ⟨b1,j,none⟩=false:=fun j=>HO4.out.frz j
   clear hk4 hr3
   obtain ⟨z,hz⟩ : ∃ z:Int,w4.cell? ⟨w3.heap.size,r3,none⟩=some (.int .i64 z):=by
    rw [hS4.cell]
    rcases (show r3 = 0∨r3 = 1∨r3 = 2 by omega) with rfl|rfl|rfl
    all_goals exact ⟨_,rfl⟩
   clear hS4 hg4
   go_wp2_with fail
   go_ret
   have hsx:=HS.out _ (List.getElem_mem hr1')
   exact ⟨_,rfl,l.set r1 ⟨l[r1].table,l[r1].column,l[r1].who,z,l[r1].day0,l[r1].day1⟩,HO4.out.store1 hold_len rfl hr1' _ (j := 6) omA rfl rfl,saneH_set HS.out _ hsx,by simp,HK4.out.far smA smA _,only_setCell hG4 (.inr smA) _⟩
  ·go_wp2_with fail
   refine (tape_Next g b 3 _ (HK3.out.alloc _) omA omA).mono ?_
   rintro e w4 ⟨r3,rfl,hr3,hk4,hg4⟩
   have hr3':r3 < 3:=by rcases hr3 with h|h <;> omega
   have HO4:=qh ((HO3.out.alloc _).grown hg4 omA)
   have hG4:=grown_trans (grown_alloc hG3 _) hg4
   have HK4:=qh hk4
   have hS4:=Blk.grown (Blk.new _ _ _) hg4 (fun e=>by injection e with e;have:=hG3.size;omega)
   have hz4:=hS4.lt
   obtain ⟨a0,a1,⟨a2,a3,a4,a5⟩,s6,s7,s8⟩:=Hold.cells9 (b:=b1) (o:=r1 * 9) (x:=l[r1]) (fun j u hu=>HO4.out.getc hold_len hr1' hu)
   have hfz : ∀ j,w4.frozen? ⟨b1,j,none⟩=false:=fun j=>HO4.out.frz j
   clear hk4 hr3
   obtain ⟨z,hz⟩ : ∃ z:Int,w4.cell? ⟨w3.heap.size,r3,none⟩=some (.int .i64 z):=by
    rw [hS4.cell]
    rcases (show r3 = 0∨r3 = 1∨r3 = 2 by omega) with rfl|rfl|rfl
    all_goals exact ⟨_,rfl⟩
   clear hS4 hg4
   go_wp2_with fail
   go_ret
   have hsx:=HS.out _ (List.getElem_mem hr1')
   exact ⟨_,rfl,l.set r1 ⟨l[r1].table,l[r1].column,l[r1].who,l[r1].seq,z,l[r1].day1⟩,HO4.out.store1 hold_len rfl hr1' _ (j := 7) omA rfl rfl,saneH_set HS.out _ hsx,by simp,HK4.out.far smA smA _,only_setCell hG4 (.inr smA) _⟩
  ·obtain ⟨D,hD⟩ : ∃ D,l[r1].day0=D:=⟨_,rfl⟩
   have hu7:(Hold.cells l[r1])[7]? = some (.int .i64 D):=by rw [← hD];rfl
   have HU7:=qh hu7
   have s7:=HO3.out.getc hold_len hr1' hu7
   have hz3:=hG3.size
   clear hu7 hD
   go_upto_region 16 with (fail)
   refine wp_region_T (S:=(fun w'=>w'.cell? ⟨b1,r1 * 9 + 7,none⟩=some (.int .i64 D))) [17] krA s7 (fun hHeld => ?_)
   refine tkT 0 hHeld ?_
   refine tkT 1 hHeld ?_
   refine tkT 2 hHeld ?_
   refine tkT 3 hHeld ?_
   refine tkT 4 hHeld ?_
   refine tkT 5 hHeld ?_
   refine tkT 6 hHeld ?_
   refine tkT 7 hHeld ?_
   refine tkT 8 hHeld ?_
   refine tkT 9 hHeld ?_
   refine tkT 11 hHeld ?_
   refine r2T 10 12 (fun K hK => ?_) (fun K hK => ?_)
   ·go_simp
    refine hK.out _ _ _ ?_ (fun hHeld => ?_)
    ·go_simp
    clear hK K
    refine r1T 12 (fun K hK => ?_)
    go_simp
    (go_at_call 15;(with_reducible refine (tape_Next g b 4 _ ?_ omA omA).mono ?_))
    focus (first|with_reducible exact HK3.out|(with_reducible refine IsTape.below (w:=w3) HK3.out ?_;exact belA))
    rintro e w4 ⟨r3,rfl,hr3,hk4,hg4⟩
    have hr3':r3 < 4:=by rcases hr3 with h|h <;> omega
    have hr3i:(r3:Int) < 4:=by omega
    have hb14:b1<w4.heap.size:=by
     have hbx:Owns w4 w.heap.size 107 Hold.cells 9 (.slice (some ⟨b1,0,none⟩) l.length cap) l:=by
      refine Owns.grown ?_ hg4 omA
      first|exact HO3.out|exact HO3.out.drew|exact HO3.out.alloc _|exact (HO3.out.alloc _).drew
     exact hbx.blk_lt.2
    have hO4:Owns w4 w.heap.size 107 Hold.cells 9 (.slice (some ⟨b1,0,none⟩) l.length cap) l:=by
     refine Owns.grown ?_ hg4 omA
     first|exact HO3.out|exact HO3.out.drew|exact HO3.out.alloc _|exact (HO3.out.alloc _).drew
    have hG4:=grown_trans (grown_trans hG3 (grown_start (w':=_) (some g) (by first|exact Below.refl _ _|exact belA))) hg4
    have HK4:=qh hk4
    have hz4:=hg4.size
    have s7:=hO4.getc hold_len hr1' HU7.out
    go_wp2_with fail
    refine hK.out _ _ _ s7 (fun hHeld => ?_)
    clear hK K hk4 hr3
    have hS4:Blk w4 w3.heap.size 3 #[.int .i64 D, .int .i64 (IntKind.i64.wrap (D - 1)), .int .i64 1048576, .int .i64 1048577]:=Blk.grown neA hg4 (fun e=>by injection e with e;omega)
    have HO4:=qh (hO4)
    refine tkT 13 hHeld ?_
    refine r1T 14 (fun K hK => ?_)
    obtain ⟨z,hz⟩ : ∃ z:Int,(w4).cell? ⟨w3.heap.size,r3,none⟩=some (.int .i64 z):=by
     rw [hS4.cell]
     rcases (show r3 = 0∨r3 = 1∨r3 = 2∨r3 = 3 by omega) with rfl|rfl|rfl|rfl
     all_goals exact ⟨_,rfl⟩
    go_simp
    refine hK.out _ _ _ ?_ (fun hHeld => ?_)
    ·first|exact hHeld|go_simp
    clear hK K
    refine r1T 15 (fun K hK => ?_)
    go_simp
    refine hK.out _ _ _ ?_ (fun hHeld => ?_)
    ·first|exact hHeld|go_simp
    clear hK K
    refine tkT 16 hHeld ?_
    refine rzT 17 (fun K hK => ?_)
    have hfz : ∀ j,(w4).frozen? ⟨b1,j,none⟩=false:=fun j=>HO4.out.frz j
    obtain ⟨_,_,_,_,_,s8⟩:=Hold.cells9 (b:=b1) (o:=r1 * 9) (x:=l[r1]) (fun j u hu=>HO4.out.getc hold_len hr1' hu)
    clear hHeld
    go_simp
    refine hK.out _ _ _ ?_
    clear hK K
    refine wpT_done krA ?_ _
    go_wp2_with fail
    go_ret
    have hsx:=HS.out _ (List.getElem_mem hr1')
    exact ⟨_,rfl,l.set r1 ⟨l[r1].table,l[r1].column,l[r1].who,l[r1].seq,l[r1].day0,z⟩,HO4.out.store1 hold_len rfl hr1' _ (j := 8) omA rfl rfl,saneH_set HS.out _ hsx,by simp,HK4.out.far smA smA _,only_setCell hG4 (.inr smA) _⟩
   ·go_simp
    (go_at_call 15;(with_reducible refine (tape_Next g b 4 _ ?_ omA omA).mono ?_))
    focus (first|with_reducible exact HK3.out|(with_reducible refine IsTape.below (w:=w3) HK3.out ?_;exact belA))
    rintro e w4 ⟨r3,rfl,hr3,hk4,hg4⟩
    have hr3':r3 < 4:=by rcases hr3 with h|h <;> omega
    have hr3i:(r3:Int) < 4:=by omega
    have hb14:b1<w4.heap.size:=by
     have hbx:Owns w4 w.heap.size 107 Hold.cells 9 (.slice (some ⟨b1,0,none⟩) l.length cap) l:=by
      refine Owns.grown ?_ hg4 omA
      first|exact HO3.out|exact HO3.out.drew|exact HO3.out.alloc _|exact (HO3.out.alloc _).drew
     exact hbx.blk_lt.2
    have hO4:Owns w4 w.heap.size 107 Hold.cells 9 (.slice (some ⟨b1,0,none⟩) l.length cap) l:=by
     refine Owns.grown ?_ hg4 omA
     first|exact HO3.out|exact HO3.out.drew|exact HO3.out.alloc _|exact (HO3.out.alloc _).drew
    have hG4:=grown_trans (grown_trans hG3 (grown_start (w':=_) (some g) (by first|exact Below.refl _ _|exact belA))) hg4
    have HK4:=qh hk4
    have hz4:=hg4.size
    have s7:=hO4.getc hold_len hr1' HU7.out
    go_wp2_with fail
    refine hK.out _ _ _ s7 (fun hHeld => ?_)
    clear hK K hk4 hr3
    refine r1T 10 (fun K hK => ?_)
    go_simp
    refine hK.out _ _ _ ?_ (fun hHeld => ?_)
    ·go_simp
    clear hK K
    have hS4:Blk (w4.alloc (.cells #[.int .i64 D, .int .i64 (IntKind.i64.wrap (D - 1)), .int .i64 1048576, .int .i64 1048577] 3)) w4.heap.size 3 #[.int .i64 D, .int .i64 (IntKind.i64.wrap (D - 1)), .int .i64 1048576, .int .i64 1048577]:=Blk.new' rfl
    have HO4:=qh (hO4.alloc (.cells #[.int .i64 D, .int .i64 (IntKind.i64.wrap (D - 1)), .int .i64 1048576, .int .i64 1048577] 3))
    refine tkT 13 hHeld ?_
    refine r1T 14 (fun K hK => ?_)
    obtain ⟨z,hz⟩ : ∃ z:Int,(w4.alloc (.cells #[.int .i64 D, .int .i64 (IntKind.i64.wrap (D - 1)), .int .i64 1048576, .int .i64 1048577] 3)).cell? ⟨w4.heap.size,r3,none⟩=some (.int .i64 z):=by
     rw [hS4.cell]
     rcases (show r3 = 0∨r3 = 1∨r3 = 2∨r3 = 3 by omega) with rfl|rfl|rfl|rfl
     all_goals exact ⟨_,rfl⟩
    go_simp
    refine hK.out _ _ _ ?_ (fun hHeld => ?_)
    ·first|exact hHeld|go_simp
    clear hK K
    refine r1T 15 (fun K hK => ?_)
    go_simp
    refine hK.out _ _ _ ?_ (fun hHeld => ?_)
    ·first|exact hHeld|go_simp
    clear hK K
    refine tkT 16 hHeld ?_
    refine rzT 17 (fun K hK => ?_)
    have hfz : ∀ j,(w4.alloc (.cells #[.int .i64 D, .int .i64 (IntKind.i64.wrap (D - 1)), .int .i64 1048576, .int .i64 1048577] 3)).frozen? ⟨b1,j,none⟩=false:=fun j=>HO4.out.frz j
    obtain ⟨_,_,_,_,_,s8⟩:=Hold.cells9 (b:=b1) (o:=r1 * 9) (x:=l[r1]) (fun j u hu=>HO4.out.getc hold_len hr1' hu)
    clear hHeld
    go_simp
    refine hK.out _ _ _ ?_
    clear hK K
    refine wpT_done krA ?_ _
    go_wp2_with fail
    go_ret
    have hsx:=HS.out _ (List.getElem_mem hr1')
    exact ⟨_,rfl,l.set r1 ⟨l[r1].table,l[r1].column,l[r1].who,l[r1].seq,l[r1].day0,z⟩,(hO4.store1 hold_len rfl hr1' ⟨l[r1].table,l[r1].column,l[r1].who,l[r1].seq,l[r1].day0,z⟩ (j := 8) (u := .int .i64 z) omA rfl rfl).alloc _,saneH_set HS.out _ hsx,by simp,(HK4.out.far smA smA _).alloc _,grown_alloc (only_setCell hG4 (.inr smA) _) _⟩
  ·go_wp2_with fail
   refine (tape_Next g b 2 _ (HK3.out.alloc _) omA omA).mono ?_
   rintro e w4 ⟨r3,rfl,hr3,hk4,hg4⟩
   have hr3':r3 < 2:=by rcases hr3 with h|h <;> omega
   have HO4:=qh ((HO3.out.alloc _).grown hg4 omA)
   have hG4:=grown_trans (grown_alloc hG3 _) hg4
   have HK4:=qh hk4
   have hS4:=Blk.grown (Blk.new _ _ _) hg4 (fun e=>by injection e with e;have:=hG3.size;omega)
   have hz4:=hS4.lt
   obtain ⟨a0,a1,⟨a2,a3,a4,a5⟩,s6,s7,s8⟩:=Hold.cells9 (b:=b1) (o:=r1 * 9) (x:=l[r1]) (fun j u hu=>HO4.out.getc hold_len hr1' hu)
   have hfz : ∀ j,w4.frozen? ⟨b1,j,none⟩=false:=fun j=>HO4.out.frz j
   clear hk4 hr3
   obtain ⟨z,hz,hzl⟩ : ∃ z:ByteArray,w4.cell? ⟨w3.heap.size,r3,none⟩=some (.string z)∧z.size ≤ 1000000:=by
    rw [hS4.cell]
    rcases (show r3 = 0∨r3 = 1 by omega) with rfl|rfl
    all_goals exact ⟨_,rfl,by decide⟩
   clear hS4 hg4
   go_wp2_with fail
   go_ret
   have hsx:=HS.out _ (List.getElem_mem hr1')
   exact ⟨_,rfl,l.set r1 ⟨l[r1].table,l[r1].column,⟨z,l[r1].who.val⟩,l[r1].seq,l[r1].day0,l[r1].day1⟩,HO4.out.store1 hold_len rfl hr1' _ (j := 2) omA rfl rfl,saneH_set HS.out _ hzl,by simp,HK4.out.far smA smA _,only_setCell hG4 (.inr smA) _⟩
  ·have hfz : ∀ j,w3.frozen? ⟨b1,j,none⟩=false:=fun j=>HO3.out.frz j
   obtain ⟨a0,a1,⟨a2,a3,a4,a5⟩,s6,s7,s8⟩:=Hold.cells9 (b:=b1) (o:=r1 * 9) (x:=l[r1]) (fun j u hu=>HO3.out.getc hold_len hr1' hu)
   go_wp2_with fail
   go_ret
   have hsx:=HS.out _ (List.getElem_mem hr1')
   refine ⟨_,rfl,_,Owns.store1 hold_len (Owns.store1 hold_len (Owns.store1 hold_len HO3.out rfl hr1' ⟨l[r1].table,l[r1].column,⟨l[r1].who.ns,⟨0,l[r1].who.val.num,l[r1].who.val.text⟩⟩,l[r1].seq,l[r1].day0,l[r1].day1⟩ (j := 3) omA rfl rfl) spA (i:=r1) (by simpa using hr1') ⟨l[r1].table,l[r1].column,⟨l[r1].who.ns,⟨0,0,l[r1].who.val.text⟩⟩,l[r1].seq,l[r1].day0,l[r1].day1⟩ (j := 4) omA rfl (by simp [Hold.cells])) spA (i:=r1) (by simpa using hr1') ⟨l[r1].table,l[r1].column,⟨l[r1].who.ns,⟨0,0,⟨#[]⟩⟩⟩,l[r1].seq,l[r1].day0,l[r1].day1⟩ (j := 5) omA rfl (by simp [Hold.cells]),?_,by simp,?_,?_⟩
   ·refine saneH_set (saneH_set (saneH_set HS.out _ ?_) _ ?_) _ ?_ <;> exact hsx
   ·exact ((HK3.out.far smA smA _).far smA smA _).far smA smA _
   ·exact only_setCell (only_setCell (only_setCell hG3 (.inr smA) _) (.inr smA) _) (.inr smA) _
theorem lGenO1 {P:Prop} (h:P:=by
 (
 refine wp_region_T (S:=(fun _=>True)) [] krA trivial (fun hHeld => ?_)
 refine tkT 0 hHeld ?_
 refine tkT 1 hHeld ?_
 refine tkT 2 hHeld ?_
 refine tkT 3 hHeld ?_
 refine tkT 4 hHeld ?_
 refine tkT 5 hHeld ?_
 refine tkT 6 hHeld ?_
 refine r1T 7 (fun K hK => ?_)
 (refine step_append_list _ rfl (.tmp 117) (.tmp 121) 36 rfl 55 i0 _ Owned.cells 8 72 Tryz.underlying36 hi0 hz0 hz1 hz2 rfl omA owned_len owned_one w.heap.size (.slice (some ⟨b1,0,none⟩) r1 cap) (l.take r1) rfl (by first|exact HT3.out|exact HT3.out.drew) _ _ _ (l.drop (r1 + 1)) rfl spA (by first|exact hcut|exact (hcut).next belA) smA mxA (by first|omega|(simp;omega)) ?_;intro v6 w6 hown' hg' hat')
 have hg6:w3.grownBy w6 (some b1):=by first|exact hg'|exact grown_trans (grown_start _ (Below.refl _ _).drew) hg'
 obtain ⟨A6,c6,hv6,_,_⟩:=hown'.form
 obtain ⟨n6,hn6⟩ : ∃ n6,n6=(l.take r1++l.drop (r1 + 1)).length:=⟨_,rfl⟩
 rw [← hn6] at hv6
 subst hv6
 have HN6:=qh hn6
 clear hn6
 have HOWN':=qh hown'
 have HG6:=qh hg6
 clear hown' hg' hat' hg6
 refine hK.out _ _ _ trivial (fun hHeld => ?_)
 clear hK K
 refine tkT 8 hHeld ?_
 refine wpT_done krA ?_ _
 clear hHeld
 go_wp2_with fail
 go_ret
 have hgw:w.grownBy w6 (some g):=grown_newO hG3 HG6.out (own_row hbb (o := 0) (n := 0) (c := 0))
 have hn6:=HN6.out
 subst hn6
 exact ⟨A6,c6,l.take r1++l.drop (r1 + 1),rfl,⟨HOWN'.out.mono hbase,fun x hx=>by
  have hin:x∈l:=by
   rcases List.mem_append.1 hx with h|h
   ·exact List.mem_of_mem_take h
   ·exact List.mem_of_mem_drop h
  exact HE.out _ hgw x hin⟩,by simp;omega,HK3.out.grownO HG6.out (fun e=>by injection e with e;omega) (fun e=>by injection e with e;omega),hgw⟩)):P:=h
structure OOut (w:World) (base:Nat) (A:Option Addr) (c:Nat) (o:List Owned):Prop where
 own:Owns w base 55 Owned.cells 8 (.slice A o.length c) o
 each : ∀ x∈o,Owns w base 105 Ident.cells 4 (.slice x.A x.own.length x.cap) x.own∧x.own.length ≤ 1000000
section
variable {w w':World} {base c N:Nat} {A:Option Addr} {o:List Owned}
theorem OInv.out (h:OInv w base A c o N):OOut w base A c o:=⟨h.own,fun x hx=>⟨(h.each x hx).1,by have:=(h.each x hx).2;omega⟩⟩
theorem OOut.kept {g:Nat} (h:OOut w base A c o) (hg:w.grownBy w' (some g)) (hb:g<base):OOut w' base A c o :=
 ⟨h.own.kept hg fun q hq e=>by have:=h.own.row q hq;injection e with e;omega,fun x hx=>⟨(h.each x hx).1.kept hg fun q hq e=>by have:=(h.each x hx).1.row q hq;injection e with e;omega,(h.each x hx).2⟩⟩
theorem OOut.read (h:OOut w base A c o):SliceIs w w.heap.size Owned.cells 8 A o∧OwnersIn w w.heap.size o :=
 ⟨own_read owned_len h.own,fun x hx=>⟨own_read ident_len (h.each x hx).1,(h.each x hx).2⟩⟩
end
theorem ty_oi : 55 ≠ 105:=by decide
theorem OOut.set1 {w:World} {base B b1 cap r1 j p:Nat} {l:List Owned} {u:Value} (h:Owns w B 55 Owned.cells 8 (.slice (some ⟨b1,0,none⟩) l.length cap) l) (hE : ∀ x∈l,Owns w base 105 Ident.cells 4 (.slice x.A x.own.length x.cap) x.own∧x.own.length ≤ 1000000) (hb:base≤B) (hi:r1<l.length) (x:Owned) (hj:j < 8) (ho:p=r1 * 8+j) (hx:Owned.cells x=(Owned.cells l[r1]).set j u) (hown:Owns w base 105 Ident.cells 4 (.slice x.A x.own.length x.cap) x.own∧x.own.length ≤ 1000000) :
 OOut (w.setCell ⟨b1,p,none⟩ u) base (some ⟨b1,0,none⟩) cap (l.set r1 x):=by
 obtain ⟨cs,hc⟩:=h.typ (q:=b1) rfl
 have h1:=h.store1 owned_len rfl hi x hj ho hx
 refine ⟨by simpa using h1.mono hb,fun y hy => ?_⟩
 rcases List.mem_or_eq_of_mem_set hy with h2|rfl
 ·exact ⟨(hE y h2).1.otype hc ty_oi _,(hE y h2).2⟩
 ·exact ⟨hown.1.otype hc ty_oi _,hown.2⟩
theorem own_take {α : Type} {enc : α → List Value} {s c base g m:Nat} {w:World} {e:TypeId} {l:List α} (hk : ∀ x,(enc x).length=s) (h:Owns w base e enc s (.slice (some ⟨g,0,none⟩) l.length c) l) (hm:m≤l.length):Owns w base e enc s (.slice (some ⟨g,0,none⟩) m c) (l.take m):=by
 have hml:(l.take m).length=m:=by rw [List.length_take];omega
 have hf:(l.take m).flatMap enc=(l.flatMap enc).take (m*s):=by
  have h1:l.flatMap enc=(l.take m).flatMap enc++(l.drop m).flatMap enc:=by rw [← List.flatMap_append,List.take_append_drop]
  rw [h1,List.take_left' (by rw [flat_length hk,hml])]
 refine ⟨by rw [flat_length hk],?_⟩
 rcases h.2 with ⟨h1,_⟩|⟨g',cap,cur,hv,hb,hg,hn,hmx,hs,ht⟩
 ·cases h1
 ·injection hv with h1 h2 h3
  injection h1 with h1
  injection h1 with h1
  subst h1 h3
  refine .inr ⟨g,c,cur,by rw [hml],hb,hg,by rw [hml];omega,hmx,hs,?_⟩
  rw [hml,hf,← ht,List.take_take,Nat.min_eq_left (Nat.mul_le_mul_right _ hm)]
def SpoiltO (w:World) (base g b n:Nat) (e:Ending) (w':World):Prop := ∃ A' c' out,e = .returned (.slice A' out.length c')∧OOut w' base A' c' out∧out.length≤n + 1∧IsTape w' g b∧w.grownBy w' (some g)
theorem SpoiltO.set {w w4:World} {base g b b1 cap r1 j p:Nat} {l:List Owned} {u:Value} (h:Owns w4 w.heap.size 55 Owned.cells 8 (.slice (some ⟨b1,0,none⟩) l.length cap) l) (hE : ∀ x∈l,Owns w4 base 105 Ident.cells 4 (.slice x.A x.own.length x.cap) x.own∧x.own.length ≤ 1000000) (hb:base≤w.heap.size) (hi:r1<l.length) (hk:IsTape w4 g b) (hg:w.grownBy w4 (some g)) (hgl:g<w.heap.size) (hbl:b<w.heap.size) (x:Owned) (hj:j < 8) (ho:p=r1 * 8+j) (hx:Owned.cells x=(Owned.cells l[r1]).set j u) (hown:Owns w4 base 105 Ident.cells 4 (.slice x.A x.own.length x.cap) x.own∧x.own.length ≤ 1000000) :
 SpoiltO w base g b l.length (.returned (.slice (some ⟨b1,0,none⟩) l.length cap)) (w4.setCell ⟨b1,p,none⟩ u):=by
 have hb1:=h.row b1 rfl
 exact ⟨_,cap,l.set r1 x,by simp,OOut.set1 h hE hb hi x hj ho hx hown,by simp,hk.far (by show g≠b1;omega) (by show b≠b1;omega) _,only_setCell hg (.inr (by show w.heap.size≤b1;exact hb1)) _⟩
theorem SpoiltO.set6 {w w3:World} {base g b b1 cap r1 j p:Nat} {l:List Owned} {u:Value} {ob:Obj} (h:Owns w3 w.heap.size 55 Owned.cells 8 (.slice (some ⟨b1,0,none⟩) l.length cap) l) (hE : ∀ x∈l,Owns w3 base 105 Ident.cells 4 (.slice x.A x.own.length x.cap) x.own∧x.own.length ≤ 1000000) (hb:base≤w.heap.size) (hi:r1<l.length) (hk:IsTape w3 g b) (hg:w.grownBy w3 (some g)) (hgl:g<w.heap.size) (hbl:b<w.heap.size) (x:Owned) (hj:j < 8) (ho:p=r1 * 8+j) (hx:Owned.cells x=(Owned.cells l[r1]).set j u) (hown:Owns ((w3.setCell ⟨b1,p,none⟩ u).alloc ob) base 105 Ident.cells 4 (.slice x.A x.own.length x.cap) x.own∧x.own.length ≤ 1000000) :
 SpoiltO w base g b l.length (.returned (.slice (some ⟨b1,0,none⟩) l.length cap)) ((w3.setCell ⟨b1,p,none⟩ u).alloc ob):=by
 have hb1:=h.row b1 rfl
 obtain ⟨cs,hc⟩:=h.typ (q:=b1) rfl
 have h1:=h.store1 owned_len rfl hi x hj ho hx
 refine ⟨some ⟨b1,0,none⟩,cap,l.set r1 x,by simp,⟨by simpa using (h1.alloc ob).mono hb,fun y hy => ?_⟩,by simp,(hk.far (by show g≠b1;omega) (by show b≠b1;omega) _).alloc _,grown_alloc (only_setCell hg (.inr (by show w.heap.size≤b1;exact hb1)) _) _⟩
 rcases List.mem_or_eq_of_mem_set hy with h2|rfl
 ·exact ⟨((hE y h2).1.otype hc ty_oi _).alloc _,(hE y h2).2⟩
 ·exact hown
theorem tape_SpoilOwned (g b base N:Nat) (A:Option Addr) (c n:Nat) (l:List Owned) (w:World) (hk:IsTape w g b) (hl:OInv w base A c l N) (hgb:g<base) (hbase:base≤w.heap.size) (hln:l.length=n) (hn:n ≤ 100000) :
 Calls Tryz.prog 18 #[.pointer (some ⟨g,0,none⟩), .slice A n c] w (SpoiltO w base g b n):=by
 subst hln
 obtain ⟨i0,hi0,hz0,hz1,hz2⟩:=info_parts infoOwned
 have hgl:=hk.ltg
 have hbl:=hk.lt
 have HK:=qh hk
 have HI:=qh hl
 have HE:Hid (∀ v,w.grownBy v (some g) → ∀ x∈l,Owns v base 105 Ident.cells 4 (.slice x.A x.own.length x.cap) x.own∧x.own.length ≤ 1000000):=qh fun v hv=>(hl.out.kept hv hgb).each
 have HL:=qh hl.read.1
 clear hk hl
 by_cases h0:l.length = 0
 ·have h0':((l.length:Int) == 0)=true:=by rw [h0];rfl
  clear hi0 hz0 hz1 hz2
  go_enter Tryz.func18,Tryz.ntmps18
  go_wp2
  go_ret
  refine ⟨_,_,[⟨0,0,0,0,0,none,0,[],false,false⟩],rfl,⟨(Owns.one (Blk.new' rfl) (Nat.le_refl _) owned_len).mono hbase,fun x hx => ?_⟩,by simp,HK.out.alloc _,only_of_below belA _⟩
  obtain rfl:=List.mem_singleton.1 hx
  exact ⟨Owns.nil,Nat.zero_le _⟩
 ·have h0':((l.length:Int) == 0)=false:=by rw [beq_eq_false_iff_ne];omega
  have hA : ∃ b5 o5,A=some ⟨b5,o5,none⟩:=by
   obtain ⟨b5,o5,h,_⟩:=HL.out omA
   exact ⟨b5,o5,h⟩
  go_enter Tryz.func18,Tryz.ntmps18
  go_upto_region 3 with (fail)
  go_wp2_with ((at_builtin;go_must (refine wpList_append_list _ rfl (.tmp 13) (.tmp 14) 36 rfl 55 i0 _ Owned.cells 8 72 Tryz.underlying36 hi0 hz0 hz1 hz2 rfl omA owned_len owned_one w.heap.size (.slice (some ⟨w.heap.size,0,none⟩) 0 0) [] rfl (Owns.empty (Blk.new' rfl) (Nat.le_refl _)) _ _ _ l rfl rfl (HL.out.next belA) smA mxA spA ?_);intro v' w1 hown' hg' hat';have hbel:Below w.heap.size w w1:=Below.grown belA hg' spA (own_row (Nat.le_refl _));rw [List.nil_append] at hown';obtain ⟨b1,cap,rfl,hbb⟩:=hat'.elim (fun h=>hown'.some_form h) (fun h=>hown'.some_form h);have HOWN':=qh hown';clear hown'))
  have HK1:Hid (IsTape w1 g b):=HK.out.below hbel
  have hG1:w.grownBy w1 (some g):=only_of_below hbel _
  clear hg' hat' HK HL
  with_reducible refine (tape_Next g b (l.length:Int) _ HK1.out omA omA).mono ?_
  rintro e w2 ⟨r1,rfl,hr1,hk2,hg2⟩
  have hr1':r1<l.length:=by rcases hr1 with h|h <;> omega
  have HO2:=qh (HOWN'.out.grown hg2 omA)
  have hG2:=grown_trans hG1 hg2
  have HK2:=qh hk2
  clear HOWN' hg2 hk2 HK1 hG1 hr1
  go_wp2_with fail
  with_reducible refine (tape_Next g b 10 _ HK2.out omA omA).mono ?_
  rintro e w3 ⟨r2,rfl,hr2,hk3,hg3⟩
  have hr2':r2 < 10:=by rcases hr2 with h|h <;> omega
  have HO3:=qh (HO2.out.grown hg3 omA)
  have hG3:=grown_trans hG2 hg3
  have HK3:=qh hk3
  have hb1:=HO3.out.blk_lt
  have hz3:=hG3.size
  clear HO2 hg3 hk3 HK2 hG2 hr2
  rcases (show r2 = 0∨r2 = 1∨r2 = 2∨r2 = 3∨r2 = 4∨r2 = 5∨r2 = 6∨r2 = 7∨r2 = 8∨r2 = 9 by omega) with rfl|rfl|rfl|rfl|rfl|rfl|rfl|rfl|rfl|rfl
  ·go_wp2_with fail
   refine (tape_Next g b 5 _ HK3.out omA omA).mono ?_
   rintro e w4 ⟨r3,rfl,hr3,hk4,hg4⟩
   have hr3':r3 < 5:=by rcases hr3 with h|h <;> omega
   have HO4:=qh (HO3.out.grown hg4 omA)
   have hG4:=grown_trans hG3 hg4
   have HK4:=qh hk4
   obtain ⟨a0,a1,a2,a3,a4,a5,a6,a7⟩:=Owned.cells8 (b:=b1) (o:=r1 * 8) (x:=l[r1]) (fun j u hu=>HO4.out.getc owned_len hr1' hu)
   have hfz : ∀ j,(w4).frozen? ⟨b1,j,none⟩=false:=fun j=>HO4.out.frz j
   clear hk4 hr3 hg4
   go_wp2_with fail
   go_ret
   exact SpoiltO.set HO4.out (HE.out _ hG4) hbase hr1' HK4.out hG4 hgl hbl ⟨(r3:Int) - 1,l[r1].col,l[r1].seq,l[r1].record,l[r1].day,l[r1].A,l[r1].cap,l[r1].own,l[r1].null,l[r1].last⟩ (j := 0) omA rfl rfl (HE.out _ hG4 l[r1] (List.getElem_mem hr1'))
  ·go_wp2_with fail
   refine (tape_Next g b 6 _ HK3.out omA omA).mono ?_
   rintro e w4 ⟨r3,rfl,hr3,hk4,hg4⟩
   have hr3':r3 < 6:=by rcases hr3 with h|h <;> omega
   have HO4:=qh (HO3.out.grown hg4 omA)
   have hG4:=grown_trans hG3 hg4
   have HK4:=qh hk4
   obtain ⟨a0,a1,a2,a3,a4,a5,a6,a7⟩:=Owned.cells8 (b:=b1) (o:=r1 * 8) (x:=l[r1]) (fun j u hu=>HO4.out.getc owned_len hr1' hu)
   have hfz : ∀ j,(w4).frozen? ⟨b1,j,none⟩=false:=fun j=>HO4.out.frz j
   clear hk4 hr3 hg4
   go_wp2_with fail
   go_ret
   exact SpoiltO.set HO4.out (HE.out _ hG4) hbase hr1' HK4.out hG4 hgl hbl ⟨l[r1].table,(r3:Int) - 1,l[r1].seq,l[r1].record,l[r1].day,l[r1].A,l[r1].cap,l[r1].own,l[r1].null,l[r1].last⟩ (j := 1) omA rfl rfl (HE.out _ hG4 l[r1] (List.getElem_mem hr1'))
  ·go_wp2_with fail
   refine (tape_Next g b 4 _ (HK3.out.alloc _) omA omA).mono ?_
   rintro e w4 ⟨r3,rfl,hr3,hk4,hg4⟩
   have hr3':r3 < 4:=by rcases hr3 with h|h <;> omega
   have HO4:=qh ((HO3.out.alloc _).grown hg4 omA)
   have hG4:=grown_trans (grown_alloc hG3 _) hg4
   have HK4:=qh hk4
   have hS4:=Blk.grown (Blk.new _ _ _) hg4 (fun e=>by injection e with e;have:=hG3.size;omega)
   have hz4:=hS4.lt
   obtain ⟨a0,a1,a2,a3,a4,a5,a6,a7⟩:=Owned.cells8 (b:=b1) (o:=r1 * 8) (x:=l[r1]) (fun j u hu=>HO4.out.getc owned_len hr1' hu)
   have hfz : ∀ j,(w4).frozen? ⟨b1,j,none⟩=false:=fun j=>HO4.out.frz j
   clear hk4 hr3
   obtain ⟨z,hz⟩ : ∃ z:Int,w4.cell? ⟨w3.heap.size,r3,none⟩=some (.int .i64 z):=(by rw [hS4.cell];rcases (show r3 = 0∨r3 = 1∨r3 = 2∨r3 = 3 by omega) with rfl|rfl|rfl|rfl <;> exact ⟨_,rfl⟩)
   clear hS4 hg4
   go_wp2_with fail
   go_ret
   exact SpoiltO.set HO4.out (HE.out _ hG4) hbase hr1' HK4.out hG4 hgl hbl ⟨l[r1].table,l[r1].col,z,l[r1].record,l[r1].day,l[r1].A,l[r1].cap,l[r1].own,l[r1].null,l[r1].last⟩ (j := 2) omA rfl rfl (HE.out _ hG4 l[r1] (List.getElem_mem hr1'))
  ·go_wp2_with fail
   refine (tape_Next g b 4 _ (HK3.out.alloc _) omA omA).mono ?_
   rintro e w4 ⟨r3,rfl,hr3,hk4,hg4⟩
   have hr3':r3 < 4:=by rcases hr3 with h|h <;> omega
   have HO4:=qh ((HO3.out.alloc _).grown hg4 omA)
   have hG4:=grown_trans (grown_alloc hG3 _) hg4
   have HK4:=qh hk4
   have hS4:=Blk.grown (Blk.new _ _ _) hg4 (fun e=>by injection e with e;have:=hG3.size;omega)
   have hz4:=hS4.lt
   obtain ⟨a0,a1,a2,a3,a4,a5,a6,a7⟩:=Owned.cells8 (b:=b1) (o:=r1 * 8) (x:=l[r1]) (fun j u hu=>HO4.out.getc owned_len hr1' hu)
   have hfz : ∀ j,(w4).frozen? ⟨b1,j,none⟩=false:=fun j=>HO4.out.frz j
   clear hk4 hr3
   obtain ⟨z,hz⟩ : ∃ z:Int,w4.cell? ⟨w3.heap.size,r3,none⟩=some (.int .i64 z):=(by rw [hS4.cell];rcases (show r3 = 0∨r3 = 1∨r3 = 2∨r3 = 3 by omega) with rfl|rfl|rfl|rfl <;> exact ⟨_,rfl⟩)
   clear hS4 hg4
   go_wp2_with fail
   go_ret
   exact SpoiltO.set HO4.out (HE.out _ hG4) hbase hr1' HK4.out hG4 hgl hbl ⟨l[r1].table,l[r1].col,l[r1].seq,z,l[r1].day,l[r1].A,l[r1].cap,l[r1].own,l[r1].null,l[r1].last⟩ (j := 3) omA rfl rfl (HE.out _ hG4 l[r1] (List.getElem_mem hr1'))
  ·go_wp2_with fail
   refine (tape_Next g b 3 _ (HK3.out.alloc _) omA omA).mono ?_
   rintro e w4 ⟨r3,rfl,hr3,hk4,hg4⟩
   have hr3':r3 < 3:=by rcases hr3 with h|h <;> omega
   have HO4:=qh ((HO3.out.alloc _).grown hg4 omA)
   have hG4:=grown_trans (grown_alloc hG3 _) hg4
   have HK4:=qh hk4
   have hS4:=Blk.grown (Blk.new _ _ _) hg4 (fun e=>by injection e with e;have:=hG3.size;omega)
   have hz4:=hS4.lt
   obtain ⟨a0,a1,a2,a3,a4,a5,a6,a7⟩:=Owned.cells8 (b:=b1) (o:=r1 * 8) (x:=l[r1]) (fun j u hu=>HO4.out.getc owned_len hr1' hu)
   have hfz : ∀ j,(w4).frozen? ⟨b1,j,none⟩=false:=fun j=>HO4.out.frz j
   clear hk4 hr3
   obtain ⟨z,hz⟩ : ∃ z:Int,w4.cell? ⟨w3.heap.size,r3,none⟩=some (.int .i64 z):=by
    rw [hS4.cell]
    rcases (show r3 = 0∨r3 = 1∨r3 = 2 by omega) with rfl|rfl|rfl
    all_goals exact ⟨_,rfl⟩
   clear hS4 hg4
   go_wp2_with fail
   go_ret
   exact SpoiltO.set HO4.out (HE.out _ hG4) hbase hr1' HK4.out hG4 hgl hbl ⟨l[r1].table,l[r1].col,l[r1].seq,l[r1].record,z,l[r1].A,l[r1].cap,l[r1].own,l[r1].null,l[r1].last⟩ (j := 4) omA rfl rfl (HE.out _ hG4 l[r1] (List.getElem_mem hr1'))
  ·obtain ⟨ii,hii,hzi1,hzi2,hzi3⟩:=info_parts infoIdent
   have hown3:=HE.out _ hG3 _ (List.getElem_mem hr1')
   have HOW3:=qh (own_read ident_len hown3.1)
   have hol3:=(HI.out.each _ (List.getElem_mem hr1')).2
   clear hown3
   obtain ⟨a0,a1,a2,a3,a4,a5,a6,a7⟩:=Owned.cells8 (b:=b1) (o:=r1 * 8) (x:=l[r1]) (fun j u hu=>HO3.out.getc owned_len hr1' hu)
   have hfz : ∀ j,(w3).frozen? ⟨b1,j,none⟩=false:=fun j=>HO3.out.frz j
   obtain ⟨oA,hoA⟩ : ∃ a,l[r1].A=a:=⟨_,rfl⟩
   obtain ⟨oc,hoc⟩ : ∃ a,l[r1].cap=a:=⟨_,rfl⟩
   obtain ⟨ol,hol⟩ : ∃ a,l[r1].own=a:=⟨_,rfl⟩
   rw [hoA,hoc,hol] at a5
   rw [hol] at hol3
   have HOW4:Hid (SliceIs w3 w3.heap.size Ident.cells 4 oA ol):=qh (by rw [← hoA,← hol];exact HOW3.out)
   clear hoA hoc hol HOW3
   go_wp2_with ((at_builtin;go_must (refine wpList_append_list _ rfl (.tmp 84) (.tmp 88) 53 rfl 105 ii _ Ident.cells 4 48 Tryz.underlying53 hii hzi1 hzi2 hzi3 rfl omA ident_len ident_one w3.heap.size (.slice (some ⟨w3.heap.size,0,none⟩) 0 0) [] rfl (Owns.empty (Blk.new' rfl) (Nat.le_refl _)) _ _ _ ol rfl rfl (HOW4.out.next belA) smA mxA spA ?_);intro v5 w5 hown5 hg5 hat5;have hbel5:Below w3.heap.size w3 w5:=Below.grown belA hg5 spA (own_row (Nat.le_refl _));rw [List.nil_append] at hown5;clear hg5 hat5))
   with_reducible refine (tape_Identifier g b w5 (HK3.out.below hbel5)).mono ?_
   rintro e w6 ⟨⟨xs,⟨xk,xn,xt⟩⟩,rfl,_,_,hk6,hg6⟩
   have hz5:=hbel5.size
   have HK6:=qh hk6
   have hown6:=hown5.kept hg6 (fun q hq e=>by have:=hown5.row q hq;injection e with e;omega)
   have hG6:=grown_trans hG3 (grown_trans (grown_start _ hbel5) hg6)
   have HO6:=qh ((HO3.out.below hbel5 (Nat.le_refl _)).grown hg6 omA)
   have hz6:=hg6.size
   clear hg6 hk6 hown5 hbel5 HO3 HK3 a0 a1 a2 a3 a4 a5 a6 a7 hfz
   go_wp2_with ((at_builtin;go_must (refine wpList_append_list _ rfl (.tmp 89) (.tmp 92) 53 rfl 105 ii _ Ident.cells 4 48 Tryz.underlying53 hii hzi1 hzi2 hzi3 rfl omA ident_len ident_one w3.heap.size v5 ol rfl (hown6.alloc _) _ _ _ [⟨xs,⟨xk,xn,xt⟩⟩] rfl rfl (Blk.one (enc:=Ident.cells) (x:=⟨xs,⟨xk,xn,xt⟩⟩) (Blk.new' rfl) spA) smA mxA smA ?_);intro v7 w7 hown7 hg7 hat7;obtain ⟨A7,c7,hv7,_,_⟩:=hown7.form;obtain ⟨n7,hn7⟩ : ∃ n7,n7=(ol ++ [(⟨xs,⟨xk,xn,xt⟩⟩:Ident)]).length:=⟨_,rfl⟩;rw [← hn7] at hv7;subst hv7;have HN7:=qh hn7;have HOWN7:=qh hown7;clear hn7 hown7;have HO7:Hid (Owns w7 w.heap.size 55 Owned.cells 8 (.slice (some ⟨b1,0,none⟩) l.length cap) l):=qh ((HO6.out.alloc _).kept hg7 (HO6.out.neType hown6 ty_oi));have HK7:Hid (IsTape w7 g b):=qh ((HK6.out.alloc _).grownO hg7 (fun e=>by have:=hown6.row g e.symm;omega) (fun e=>by have:=hown6.row b e.symm;omega));have HG7:Hid (w.grownBy w7 (some g)):=qh (grown_newO (grown_alloc hG6 _) hg7 (fun q hq=>by have:=hown6.row q hq;omega));have hfz : ∀ j,w7.frozen? ⟨b1,j,none⟩=false:=(fun j=>HO7.out.frz j);obtain ⟨a0,a1,a2,a3,a4,a5,a6,a7⟩:=Owned.cells8 (b:=b1) (o:=r1 * 8) (x:=l[r1]) (fun j u hu=>HO7.out.getc owned_len hr1' hu);clear hg7 hat7))
   go_ret
   have hn:=HN7.out
   subst hn
   exact SpoiltO.set HO7.out (HE.out _ HG7.out) hbase hr1' HK7.out HG7.out hgl hbl ⟨l[r1].table,l[r1].col,l[r1].seq,l[r1].record,l[r1].day,A7,c7,ol ++ [⟨xs,⟨xk,xn,xt⟩⟩],l[r1].null,l[r1].last⟩ (j := 5) omA rfl rfl ⟨HOWN7.out.mono omA,by simp;omega⟩
  ·obtain ⟨a0,a1,a2,a3,a4,a5,a6,a7⟩:=Owned.cells8 (b:=b1) (o:=r1 * 8) (x:=l[r1]) (fun j u hu=>HO3.out.getc owned_len hr1' hu)
   have hfz : ∀ j,(w3).frozen? ⟨b1,j,none⟩=false:=fun j=>HO3.out.frz j
   go_wp2_with fail
   go_ret
   exact SpoiltO.set6 HO3.out (HE.out _ hG3) hbase hr1' HK3.out hG3 hgl hbl ⟨l[r1].table,l[r1].col,l[r1].seq,l[r1].record,l[r1].day,some ⟨w3.heap.size,0,none⟩,1,[⟨⟨#[112,101,114,115,111,110]⟩,⟨0,0,⟨#[]⟩⟩⟩],l[r1].null,l[r1].last⟩ (j := 5) omA rfl rfl ⟨(Owns.one (enc:=Ident.cells) (Blk.new' spA) (Nat.le_refl _) ident_len).mono omA,by simp⟩
  ·obtain ⟨a0,a1,a2,a3,a4,a5,a6,a7⟩:=Owned.cells8 (b:=b1) (o:=r1 * 8) (x:=l[r1]) (fun j u hu=>HO3.out.getc owned_len hr1' hu)
   have hfz : ∀ j,(w3).frozen? ⟨b1,j,none⟩=false:=fun j=>HO3.out.frz j
   go_wp2_with fail
   go_ret
   exact SpoiltO.set HO3.out (HE.out _ hG3) hbase hr1' HK3.out hG3 hgl hbl ⟨l[r1].table,l[r1].col,l[r1].seq,l[r1].record,l[r1].day,l[r1].A,l[r1].cap,l[r1].own,l[r1].null,!l[r1].last⟩ (j := 7) omA rfl rfl (HE.out _ hG3 l[r1] (List.getElem_mem hr1'))
  ·have hcap:=own_cap HO3.out
   have HT3:Hid (Owns w3 w.heap.size 55 Owned.cells 8 (.slice (some ⟨b1,0,none⟩) r1 cap) (l.take r1)):=qh (own_take owned_len HO3.out omA)
   have hrc:r1≤cap:=by omega
   have hrc1:r1 + 1≤cap:=by omega
   have hjw:IntKind.i64.wrap ((r1:Int) + 1)=((r1 + 1:Nat):Int):=by rw [show (r1:Int) + 1=((r1 + 1:Nat):Int) by omega];exact IntWalk.i64_in _ omA
   have hi1:(r1:Int)≤(r1:Int) + 1:=by omega
   have hi2:(0:Int)≤(r1:Int) + 1:=by omega
   have hi3:(r1:Int) + 1≤(l.length:Int):=by omega
   have HR3:=qh (own_read owned_len HO3.out)
   go_upto_region 25 with (fail)
   by_cases hcm:cap=r1 + 1
   ·have hcut:SliceIs w3 w3.heap.size Owned.cells 8 (some ⟨b1,0,none⟩) (l.drop (r1 + 1)):=by
     rw [List.drop_eq_nil_of_le omA]
     exact SliceIs.nil
    have hcm':=eq_true hcm
    clear hcm
    exact lGenO1
   ·have hcut:SliceIs w3 w3.heap.size Owned.cells 8 (some ⟨b1,(r1 + 1) * 8,none⟩) (l.drop (r1 + 1)):=by have h:=HR3.out.cut (c:=cap) (r1 + 1) omA;rw [if_neg hcm] at h;simpa using h
    exact lGenO1
  ·obtain ⟨a0,a1,a2,a3,a4,a5,a6,a7⟩:=Owned.cells8 (b:=b1) (o:=r1 * 8) (x:=l[r1]) (fun j u hu=>HO3.out.getc owned_len hr1' hu)
   have hfz : ∀ j,(w3).frozen? ⟨b1,j,none⟩=false:=fun j=>HO3.out.frz j
   go_wp2_with (at_builtin;go_must (refine wpList_append_list _ rfl (.tmp 25) (.tmp 30) 36 rfl 55 i0 _ Owned.cells 8 72 Tryz.underlying36 hi0 hz0 hz1 hz2 rfl omA owned_len owned_one w.heap.size (.slice (some ⟨b1,0,none⟩) l.length cap) l rfl (HO3.out.alloc _) _ _ _ [l[r1]] rfl rfl (Blk.one (enc:=Owned.cells) (x:=l[r1]) (Blk.new' spA) spA) smA mxA (by have:=hG3.size;simp at this ⊢;omega) ?_);intro v' w6 hown' hg' hat';obtain ⟨A6,c6,rfl,_,_⟩:=hown'.form;have HOWN':=qh hown';clear hown';have HK6:Hid (IsTape w6 g b):=(HK3.out.alloc _).grownO hg' (ne_row omA) (ne_row omA);have HG6:Hid (w.grownBy w6 (some g)):=grown_newO (grown_alloc hG3 _) hg' (own_row hbb))
   go_ret
   refine ⟨A6,c6,l ++ [l[r1]],congrArg (fun n=>Ending.returned (Value.slice A6 n c6)) spA,⟨HOWN'.out.mono hbase,fun x hx => ?_⟩,by simp,HK6.out,HG6.out⟩
   have hin:x∈l:=by
    rcases List.mem_append.1 hx with hx|hx
    ·exact hx
    ·obtain rfl:=List.mem_singleton.1 hx
     exact List.getElem_mem hr1'
   exact HE.out _ HG6.out x hin
end Go.Proofs.YtlpgmdhnjckplaaGreat
