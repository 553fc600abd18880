/-
  Contracts and plain laws of this seat, part 61: Srcs.
-/
import Derived.Test.YtjhnpnhpmdkpcaaGreatB19
import Derived.Test.YtjhnpnhpmdkpcaaGreatB30
set_option linter.unusedVariables false
set_option linter.unusedSimpArgs false
set_option maxRecDepth 100000
set_option maxHeartbeats 16000000
namespace Go.Proofs.YtjhnpnhpmdkpcaaGreat
open Go.RowKit Go
theorem tape_Sources (g b B:Nat) (RA:Option Addr) (rc n:Nat) (rt:List RTab) (w:World) (hk:IsTape w g b) (hgB:g<B) (hr:RTabsIn w w.heap.size RA rt) (hru:RUp B RA rt) (hn:rt.length=n) (h8:rt.length ≤ 8) (h64 : ∀ t∈rt,t.recs.length ≤ 64) (hsq : ∀ t∈rt,∀ r∈t.recs,∀ s∈r.seq,(1:Int)≤s∧s ≤ 1073741824) :
 Calls Tryz.prog 12 #[.pointer (some ⟨g,0,none⟩), .slice RA n rc] w fun e w' =>
  ∃ v l,e = .returned v∧Owns w' w.heap.size 51 Src.cells 2 v l∧SrcsIn l∧l.length ≤ 1000∧IsTape w' g b∧w.grownBy w' (some g):=by
 subst hn
 obtain ⟨i0,hi0,hz0,hz1,hz2⟩:=info_parts infoSrc
 have hgl:=hk.ltg
 have hbl:=hk.lt
 have HK:=qh hk
 have HR1:=qh hr.1
 have HR2:=qh hr.2
 have HRU:=qh hru
 have H64:=qh h64
 have HSQ:=qh hsq
 clear hk hr hru h64 hsq
 go_enter Tryz.func12,Tryz.ntmps12
 go_wp2_with fail
 go_loopw [5,6] (fun vo vi wr => ∃ (i:Nat) (l:List Src),i≤rt.length∧vi = .int .i64 i∧Owns wr w.heap.size 51 Src.cells 2 vo l∧SrcsIn l∧l.length ≤ 64*i∧IsTape wr g b∧w.grownBy wr (some g)) (fun _ vi _=>rt.length - (intOf vi).toNat)
 case atStart=>exact ⟨0,[],Nat.zero_le _,rfl,Owns.nil,fun x hx=>(by cases hx),Nat.zero_le _,HK.out,grown_start _ brf⟩
 case round =>
  obtain ⟨i,l,hi,rfl,hown,hsi,hll,hkr,hgr⟩:=hrel
  have HOWN:=qh hown
  have HSI:=qh hsi
  have HKR:=qh hkr
  have HGR:=qh hgr
  have hzr:=hgr.size
  clear hown hsi hkr
  by_cases hlt:i<rt.length
  ·have hrin:RecsIn w w.heap.size rt[i].A rt[i].recs:=HR2.out rt[i] (lgm hlt)
   have hrup:=HRU.out.2 rt[i] (lgm hlt)
   have h64:=H64.out rt[i] (lgm hlt)
   have hsq:=HSQ.out rt[i] (lgm hlt)
   obtain ⟨b6,o6,rfl,hb6,hc6⟩:=HR1.out.get hlt
   have hB6:=HRU.out.1 _ rfl
   simp only at hB6
   have q0:=hc6 0 _ rfl
   simp only [Nat.mul_one,Nat.add_zero] at q0
   obtain ⟨recs,hrecs⟩ : ∃ l,rt[i].recs=l:=⟨_,rfl⟩
   obtain ⟨RI,hRI⟩ : ∃ a,rt[i].A=a:=⟨_,rfl⟩
   rw [hrecs] at q0 hrin hrup h64 hsq
   rw [hRI] at q0 hrin hrup
   have HRI:=qh hrin.1
   have HRI2:=qh hrin.2
   have HUP:=qh hrup
   have HSQI:=qh hsq
   have HQ0:=qh q0
   clear hc6 hrin hrecs hRI q0 hrup hsq hgr
   go_wp2_with fail
   go_loopw [5,7] (fun vo vj wi => ∃ (j:Nat) (l:List Src),j≤recs.length∧vj = .int .i64 j∧Owns wi w.heap.size 51 Src.cells 2 vo l∧SrcsIn l∧l.length ≤ 64*i+j∧IsTape wi g b∧w.grownBy wi (some g)) (fun _ vj _=>recs.length - (intOf vj).toNat)
   case atStart=>exact ⟨0,l,Nat.zero_le _,rfl,HOWN.out,HSI.out,hll,HKR.out,HGR.out⟩
   case round =>
    obtain ⟨j,l1,hj,rfl,hown1,hsi1,hl1,hk1,hg1⟩:=hrel
    have HO1:=qh hown1
    have HS1:=qh hsi1
    have HK1:=qh hk1
    have HG1:=qh hg1
    have hz1':=hg1.size
    have q0:=(keepG hg1 b6 hb6 omA (o6+i)).trans HQ0.out
    clear hown1 hsi1 hk1 hg1
    by_cases hjl:j<recs.length
    ·obtain ⟨b7,o7,rfl,hb7,hc7⟩:=HRI.out.get hjl
     have hB7:=HUP.out.1 _ rfl
     simp only at hB7
     have hU8:=(HUP.out.2 recs[j] (lgm hjl)).2
     have hs8:=(HRI2.out recs[j] (lgm hjl)).2
     have hq8:=HSQI.out recs[j] (lgm hjl)
     obtain ⟨_,g1,_⟩:=Rcd.cells3 hc7
     obtain ⟨sq,hsq⟩ : ∃ l,recs[j].seq=l:=⟨_,rfl⟩
     obtain ⟨SA,hSA⟩ : ∃ a,recs[j].SA=a:=⟨_,rfl⟩
     rw [hsq] at g1 hs8 hq8
     rw [hSA] at g1 hs8 hU8
     have HG7:=qh g1
     have HS8:=qh hs8
     have HU8:=qh hU8
     have HQ8:=qh hq8
     clear hc7 hsq hSA g1 hs8 hU8 hq8
     go_upto_region 8 with (fail)
     go_wp2_with fail
     refine (tape_Next g b 3 _ HK1.out omA omA).mono ?_
     rintro e w2 ⟨r3,rfl,hr3,hk2,hg2⟩
     have HK2:=qh hk2
     have hzw:=hg2.size
     have hG2:=grown_trans HG1.out hg2
     have HG2:=qh hG2
     have HO2:=qh (HO1.out.grown hg2 hgl)
     replace q0:=(keepG hG2 b6 hb6 omA (o6+i)).trans HQ0.out
     have g1:=(keepG hG2 b7 hb7 omA _).trans HG7.out
     clear hr3 hk2 hg2
     by_cases h30:r3 = 0
     ·subst h30
      by_cases hs0 : 0<sq.length
      ·obtain ⟨b8,o8,rfl,hb8,hc8⟩:=HS8.out.get hs0
       have hB8:=HU8.out _ rfl
       simp only at hB8
       have s0:=(keepG hG2 b8 hb8 omA (o8 + 0)).trans (hc8 0 _ rfl)
       have hin:=HQ8.out sq[0] (lgm hs0)
       obtain ⟨hd,hhd⟩ : ∃ x,sq[0]=x:=⟨_,rfl⟩
       rw [hhd] at s0 hin
       simp only [Nat.zero_mul,Nat.add_zero] at s0
       have hrow:=HO2.out.row
       clear hc8 hhd hG2
       go_wp2_with (at_builtin;go_must (refine wpList_append_list _ rfl (.tmp 38) (.tmp 51) 42 rfl 51 i0 _ Src.cells 2 16 Tryz.underlying42 hi0 hz0 hz1 hz2 rfl omA src_len src_one w.heap.size u5 l1 rfl (HO2.out.alloc _) _ _ _ [⟨(i:Int),hd⟩] rfl rfl (Blk.one (enc:=Src.cells) (x:=⟨(i:Int),hd⟩) (Blk.new' rfl) spA) smA mxA smA ?_);intro v' w6 hown' hg' hat';have HOWN':=qh hown';clear hown';have HK6:Hid (IsTape w6 g b):=(HK2.out.alloc _).grownO hg' (fun e=>by have:=hrow _ e.symm;omega) (fun e=>by have:=hrow _ e.symm;omega);have HG6:Hid (w.grownBy w6 (some g)):=grown_newO (grown_alloc HG2.out _) hg' hrow)
       go_roundw
       case rel=>exact ⟨j + 1,_,by omega,by go_num,HOWN'.out,HS1.out.snoc ⟨by simp only;omega,by simp only;omega,by simp only;omega,hin.2⟩,by simp;omega,HK6.out,HG6.out⟩
       case measure=>exact meA
      ·have hs0':decide (0<sq.length)=false:=by simpa using hs0
       obtain rfl:sq = []:=List.eq_nil_of_length_eq_zero omA
       clear hG2 hs0'
       go_wp2_with fail
       go_roundw
       case rel=>exact ⟨j + 1,l1,by omega,by go_num,HO2.out,HS1.out,by omega,HK2.out,HG2.out⟩
       case measure=>exact meA
     ·have h30':((r3:Int) == 0)=false:=by simp;omega
      clear h30 hG2
      go_wp2_with fail
      go_roundw
      case rel=>exact ⟨j + 1,l1,by omega,by go_num,HO2.out,HS1.out,by omega,HK2.out,HG2.out⟩
      case measure=>exact meA
    ·have hjl':decide (j<recs.length)=false:=by simpa using hjl
     go_wp2_with fail
     go_roundw
     case rel=>exact ⟨i + 1,l1,by omega,by go_num,HO1.out,HS1.out,by omega,HK1.out,HG1.out⟩
     case measure=>exact meA
  ·have hlt':decide (i<rt.length)=false:=by simpa using hlt
   clear hgr
   go_wp2_with fail
   refine (tape_Next g b 4 _ HKR.out omA omA).mono ?_
   rintro e w2 ⟨r4,rfl,hr4,hk2,hg2⟩
   have HK2:=qh hk2
   have hzw:=hg2.size
   have HG2:=qh (grown_trans HGR.out hg2)
   have HO2:=qh (HOWN.out.grown hg2 hgl)
   clear hr4 hk2 hg2
   by_cases h40:r4 = 0
   ·subst h40
    go_wp2_with fail
    refine (tape_Next g b 4 _ HK2.out omA omA).mono ?_
    rintro e w3 ⟨r5,rfl,hr5,hk3,hg3⟩
    have HK3:=qh hk3
    have hzw3:=hg3.size
    have HG3:=qh (grown_trans HG2.out hg3)
    have HO3:=qh (HO2.out.grown hg3 hgl)
    have hr5':r5 ≤ 4:=by rcases hr5 with h|h <;> omega
    clear hr5 hk3 hg3
    go_wp2_with fail
    refine (tape_Next g b 9 _ HK3.out omA omA).mono ?_
    rintro e w4 ⟨r9,rfl,hr9,hk4,hg4⟩
    have HK4:=qh hk4
    have hzw4:=hg4.size
    have HG4:=qh (grown_trans HG3.out hg4)
    have hO4:=HO3.out.grown hg4 hgl
    have HO4:=qh hO4
    have hrow:=hO4.row
    have hr9':r9 ≤ 9:=by rcases hr9 with h|h <;> omega
    have hwr:IntKind.i64.wrap ((r5:Int) - 1)=(r5:Int) - 1:=IntWalk.i64_in _ omA
    clear hr9 hk4 hg4 hO4
    go_wp2_with (at_builtin;go_must (refine wpList_append_list _ rfl (.tmp 56) (.tmp 63) 42 rfl 51 i0 _ Src.cells 2 16 Tryz.underlying42 hi0 hz0 hz1 hz2 rfl omA src_len src_one w.heap.size u5 l rfl (HO4.out.alloc _) _ _ _ [⟨(r5:Int) - 1,r9⟩] rfl rfl (Blk.one (enc:=Src.cells) (x:=⟨(r5:Int) - 1,r9⟩) (Blk.new' rfl) spA) smA mxA smA ?_);intro v' w6 hown' hg' hat';have HOWN':=qh hown';clear hown';have HK6:Hid (IsTape w6 g b):=(HK4.out.alloc _).grownO hg' (fun e=>by have:=hrow _ e.symm;omega) (fun e=>by have:=hrow _ e.symm;omega);have HG6:Hid (w.grownBy w6 (some g)):=grown_newO (grown_alloc HG4.out _) hg' hrow)
    go_ret
    exact ⟨_,_,rfl,HOWN'.out,HSI.out.snoc ⟨by simp only;omega,by simp only;omega,by simp only;omega,by simp only;omega⟩,by simp;omega,HK6.out,HG6.out⟩
   ·have h40':((r4:Int) == 0)=false:=by simp;omega
    clear h40
    go_wp2_with fail
    go_ret
    exact ⟨_,_,rfl,HO2.out,HSI.out,by omega,HK2.out,HG2.out⟩
end Go.Proofs.YtjhnpnhpmdkpcaaGreat
