/-
  Contracts and plain laws of this seat, part 58: Cells.
-/
import Derived.Test.YtjhnpnhpmdkpcaaGreatB56
import Derived.Test.YtjhnpnhpmdkpcaaGreatB7
import Derived.Test.YtjhnpnhpmdkpcaaGreatB2
import Derived.Test.YtjhnpnhpmdkpcaaGreatB1
set_option linter.unusedVariables false
set_option linter.unusedSimpArgs false
set_option maxRecDepth 100000
set_option maxHeartbeats 16000000
namespace Go.Proofs.YtjhnpnhpmdkpcaaGreat
open Go.RowKit Go
theorem keepC {u v:World} {g:Nat} (hg:u.grownBy v (some g)) (x:Nat) (hx:x<u.heap.size) (hne:x≠g) (o:Nat):v.cell? ⟨x,o,none⟩=u.cell? ⟨x,o,none⟩:=World.cell?_of_block (hg.block x hx (fun e=>hne (by injection e)))
theorem tape_Cells (g b B:Nat) (RA:Option Addr) (rc n:Nat) (rt:List RTab) (LA:Option Addr) (lc m:Nat) (l:List Chg) (w:World) (hk:IsTape w g b) (hgB:g<B) (hr:RTabsIn w w.heap.size RA rt) (hru:RUp B RA rt) (hn:rt.length=n) (h8:rt.length ≤ 8) (h64 : ∀ t∈rt,t.recs.length ≤ 64) (hsl : ∀ t∈rt,∀ r∈t.recs,r.seq.length ≤ 8) (hsq : ∀ t∈rt,∀ r∈t.recs,∀ s∈r.seq,(1:Int)≤s∧s ≤ 1073741824)
 (hl:SliceIs w w.heap.size Chg.cells 12 LA l) (hlu : ∀ a,LA=some a→B≤a.block) (hlm:l.length=m) (hl6:m ≤ 1000) (hlr : ∀ x∈l,(-1≤x.table∧x.table ≤ 1000) ∧ 0≤x.seq∧x.seq ≤ 1073741824) :
 Calls Tryz.prog 11 #[.pointer (some ⟨g,0,none⟩), .slice RA n rc, .slice LA m lc] w fun e w' =>
  ∃ v out,e = .returned v∧Owns w' w.heap.size 56 Vn.cells 3 v out∧VnsIn out∧out.length ≤ 10000∧IsTape w' g b∧w.grownBy w' (some g):=by
 subst hn hlm
 obtain ⟨i0,hi0,hz0,hz1,hz2⟩:=info_parts infoVn
 have hgl:=hk.ltg
 have hbl:=hk.lt
 have HK:=qh hk
 have HR1:=qh hr.1
 have HR2:=qh hr.2
 have HRU:=qh hru
 have H64:=qh h64
 have HSL:=qh hsl
 have HSQ:=qh hsq
 have HL:=qh hl
 have HLU:=qh hlu
 have HLR:=qh hlr
 clear hk hr hru h64 hsl hsq hl hlu hlr
 go_enter Tryz.func11,Tryz.ntmps11
 go_wp2_with fail
 go_loopw [7,8] (fun vo vi wr => ∃ (i:Nat) (out:List Vn),i≤rt.length∧vi = .int .i64 i∧Owns wr w.heap.size 56 Vn.cells 3 vo out∧VnsIn out∧out.length ≤ 512*i∧IsTape wr g b∧w.grownBy wr (some g)) (fun _ vi _=>rt.length - (intOf vi).toNat)
 case atStart=>exact ⟨0,[],Nat.zero_le _,rfl,Owns.nil,fun x hx=>(by cases hx),Nat.zero_le _,HK.out,grown_start _ brf⟩
 case round =>
  obtain ⟨i,out,hi,rfl,hown,hsi,hll,hkr,hgr⟩:=hrel
  have HOWN:=qh hown
  have HSI:=qh hsi
  have HKR:=qh hkr
  have HGR:=qh hgr
  have hzr:=hgr.size
  clear hown hsi hkr
  by_cases hlt:i<rt.length
  ·have hrin:RecsIn w w.heap.size rt[i].A rt[i].recs:=HR2.out rt[i] (lgm hlt)
   have hrup:=HRU.out.2 rt[i] (lgm hlt)
   have h64:=H64.out rt[i] (lgm hlt)
   have hsl:=HSL.out rt[i] (lgm hlt)
   have hsq:=HSQ.out rt[i] (lgm hlt)
   obtain ⟨b6,o6,rfl,hb6,hc6⟩:=HR1.out.get hlt
   have hB6:=HRU.out.1 _ rfl
   simp only at hB6
   have q0:=hc6 0 _ rfl
   simp only [Nat.mul_one,Nat.add_zero] at q0
   obtain ⟨recs,hrecs⟩ : ∃ l,rt[i].recs=l:=⟨_,rfl⟩
   obtain ⟨RI,hRI⟩ : ∃ a,rt[i].A=a:=⟨_,rfl⟩
   rw [hrecs] at q0 hrin hrup h64 hsl hsq
   rw [hRI] at q0 hrin hrup
   have HRI:=qh hrin.1
   have HRI2:=qh hrin.2
   have HUP:=qh hrup
   have HSLI:=qh hsl
   have HSQI:=qh hsq
   have HQ0:=qh q0
   clear hc6 hrin hrecs hRI q0 hrup hsq hsl hgr
   go_wp2_with fail
   go_loopw [7,9] (fun vo vj wi => ∃ (j:Nat) (out:List Vn),j≤recs.length∧vj = .int .i64 j∧Owns wi w.heap.size 56 Vn.cells 3 vo out∧VnsIn out∧out.length ≤ 512*i + 8*j∧IsTape wi g b∧w.grownBy wi (some g)) (fun _ vj _=>recs.length - (intOf vj).toNat)
   case atStart=>exact ⟨0,out,Nat.zero_le _,rfl,HOWN.out,HSI.out,hll,HKR.out,HGR.out⟩
   case round =>
    obtain ⟨j,out1,hj,rfl,hown1,hsi1,hl1,hk1,hg1⟩:=hrel
    have HO1:=qh hown1
    have HS1:=qh hsi1
    have HK1:=qh hk1
    have HG1:=qh hg1
    have hz1':=hg1.size
    have q0:=(keepC hg1 b6 hb6 omA (o6+i)).trans HQ0.out
    clear hown1 hsi1 hk1 hg1
    by_cases hjl:j<recs.length
    ·obtain ⟨b7,o7,rfl,hb7,hc7⟩:=HRI.out.get hjl
     have hB7:=HUP.out.1 _ rfl
     simp only at hB7
     have hU8:=(HUP.out.2 recs[j] (lgm hjl)).2
     have hs8:=(HRI2.out recs[j] (lgm hjl)).2
     have hl8:=HSLI.out recs[j] (lgm hjl)
     have hq8:=HSQI.out recs[j] (lgm hjl)
     obtain ⟨_,g1,_⟩:=Rcd.cells3 hc7
     obtain ⟨sq,hsq⟩ : ∃ l,recs[j].seq=l:=⟨_,rfl⟩
     obtain ⟨SA,hSA⟩ : ∃ a,recs[j].SA=a:=⟨_,rfl⟩
     rw [hsq] at g1 hs8 hq8 hl8
     rw [hSA] at g1 hs8 hU8
     have HG7:=qh g1
     have HS8:=qh hs8
     have HU8:=qh hU8
     have HQ8:=qh hq8
     clear hc7 hsq hSA g1 hs8 hU8 hq8
     go_wp2_with fail
     clear q0
     go_loopw [7,10] (fun vo vm wj => ∃ (mm:Nat) (out:List Vn),mm≤sq.length∧vm = .int .i64 mm∧Owns wj w.heap.size 56 Vn.cells 3 vo out∧VnsIn out∧out.length ≤ 512*i + 8*j+mm∧IsTape wj g b∧w.grownBy wj (some g)) (fun _ vm _=>sq.length - (intOf vm).toNat)
     case atStart=>exact ⟨0,out1,Nat.zero_le _,rfl,HO1.out,HS1.out,hl1,HK1.out,HG1.out⟩
     case round =>
      obtain ⟨mm,out2,hmm,rfl,hown2,hsi2,hl2,hk2,hg2⟩:=hrel
      have HO2:=qh hown2
      have HS2:=qh hsi2
      have HK2:=qh hk2
      have HG2:=qh hg2
      have hz2':=hg2.size
      have q0:=(keepC hg2 b6 hb6 omA (o6+i)).trans HQ0.out
      have g1:=(keepC hg2 b7 hb7 omA _).trans HG7.out
      clear hown2 hsi2 hk2 hg2
      by_cases hml:mm<sq.length
      ·have hml':decide (mm<sq.length)=true:=by simpa using hml
       go_wp2_with fail
       refine (tape_Next g b 4 _ HK2.out omA omA).mono ?_
       rintro e w2 ⟨r3,rfl,hr3,hk3,hg3⟩
       have HK3:=qh hk3
       have hzw:=hg3.size
       have hG3:=grown_trans HG2.out hg3
       have HG3:=qh hG3
       have HO3:=qh (HO2.out.grown hg3 hgl)
       replace q0:=(keepC hG3 b6 hb6 omA (o6+i)).trans HQ0.out
       replace g1:=(keepC hG3 b7 hb7 omA _).trans HG7.out
       clear hr3 hk3 hg3
       by_cases h30:r3 = 0
       ·subst h30
        obtain ⟨b8,o8,rfl,hb8,hc8⟩:=HS8.out.get hml
        have hB8:=HU8.out _ rfl
        simp only at hB8
        have s0:=(keepC hG3 b8 hb8 omA _).trans (hc8 0 _ rfl)
        have hin:=HQ8.out sq[mm] (lgm hml)
        obtain ⟨hd,hhd⟩ : ∃ x,sq[mm]=x:=⟨_,rfl⟩
        rw [hhd] at s0 hin
        simp only [Nat.mul_one,Nat.add_zero] at s0
        have hrow:=HO3.out.row
        clear hc8 hhd hG3
        go_wp2_with (at_builtin;go_must (refine wpList_append_list _ rfl (.tmp 43) (.tmp 58) 40 rfl 56 i0 _ Vn.cells 3 24 Tryz.underlying40 hi0 hz0 hz1 hz2 rfl omA vn_len vn_one w.heap.size u7 out2 rfl (HO3.out.alloc _) _ _ _ [⟨(i:Int),(mm:Int),hd⟩] rfl rfl (Blk.one (enc:=Vn.cells) (x:=⟨(i:Int),(mm:Int),hd⟩) (Blk.new' rfl) spA) smA mxA smA ?_);intro v' w6 hown' hg' hat';have HOWN':=qh hown';clear hown';have HK6:Hid (IsTape w6 g b):=qh ((HK3.out.alloc _).grownO hg' (fun e=>by have:=hrow _ e.symm;omega) (fun e=>by have:=hrow _ e.symm;omega));have HG6:Hid (w.grownBy w6 (some g)):=qh (grown_newO (grown_alloc HG3.out _) hg' hrow))
        go_roundw
        case rel=>exact ⟨mm + 1,_,by omega,by go_num,HOWN'.out,HS2.out.snoc ⟨by simp only;omega,by simp only;omega,by simp only;omega,hin.2⟩,by simp;omega,HK6.out,HG6.out⟩
        case measure=>exact meA
       ·have h30':((r3:Int) == 0)=false:=by simp;omega
        clear h30 hG3
        go_wp2_with fail
        go_roundw
        case rel=>exact ⟨mm + 1,out2,by omega,by go_num,HO3.out,HS2.out,by omega,HK3.out,HG3.out⟩
        case measure=>exact meA
      ·have hml':decide (mm<sq.length)=false:=by simpa using hml
       go_wp2_with fail
       go_roundw
       case rel=>exact ⟨j + 1,out2,by omega,by go_num,HO2.out,HS2.out,by omega,HK2.out,HG2.out⟩
       case measure=>exact meA
    ·have hjl':decide (j<recs.length)=false:=by simpa using hjl
     go_wp2_with fail
     go_roundw
     case rel=>exact ⟨i + 1,out1,by omega,by go_num,HO1.out,HS1.out,by omega,HK1.out,HG1.out⟩
     case measure=>exact meA
  ·have hlt':decide (i<rt.length)=false:=by simpa using hlt
   clear hgr
   obtain rfl:i=rt.length:=by omega
   go_wp2_with fail
   go_loopw [7,11] (fun vo vi wi => ∃ (i:Nat) (out:List Vn),i≤l.length∧vi = .int .i64 i∧Owns wi w.heap.size 56 Vn.cells 3 vo out∧VnsIn out∧out.length ≤ 4096+i∧IsTape wi g b∧w.grownBy wi (some g)) (fun _ vi _=>l.length - (intOf vi).toNat)
   case atStart=>exact ⟨0,out,Nat.zero_le _,rfl,HOWN.out,HSI.out,by omega,HKR.out,HGR.out⟩
   case round =>
    clear HOWN HSI HKR HGR hll hlt'
    obtain ⟨i,out1,hi1,rfl,hown1,hsi1,hl1,hk1,hg1⟩:=hrel
    have HO1:=qh hown1
    have HS1:=qh hsi1
    have HK1:=qh hk1
    have HG1:=qh hg1
    have hz1':=hg1.size
    clear hown1 hsi1 hk1 hg1
    by_cases hil:i<l.length
    ·have hil':decide (i<l.length)=true:=by simpa using hil
     obtain ⟨b5,o5,rfl,hb5,hc5⟩:=HL.out.get hil
     have hB5:=HLU.out _ rfl
     simp only at hB5
     obtain ⟨⟨_,f1,_,f3⟩,_⟩:=Chg.cells12 hc5
     obtain ⟨hlt1,hlt2⟩:=HLR.out l[i] (lgm hil)
     obtain ⟨sq,hsq⟩ : ∃ x,l[i].seq=x:=⟨_,rfl⟩
     obtain ⟨tb,htb⟩ : ∃ x,l[i].table=x:=⟨_,rfl⟩
     rw [hsq] at f1 hlt2
     rw [htb] at f3 hlt1
     have HF1:=qh f1
     have HF3:=qh f3
     clear hc5 hsq htb f1 f3
     go_wp2_with fail
     refine (tape_Next g b 3 _ HK1.out omA omA).mono ?_
     rintro e w2 ⟨r3,rfl,hr3,hk3,hg3⟩
     have HK3:=qh hk3
     have hzw:=hg3.size
     have hG3:=grown_trans HG1.out hg3
     have HG3:=qh hG3
     have HO3:=qh (HO1.out.grown hg3 hgl)
     clear hr3 hk3 hg3
     by_cases h30:r3 = 0
     ·subst h30
      have f1:=(keepC hG3 b5 hb5 omA _).trans HF1.out
      have f3:=(keepC hG3 b5 hb5 omA _).trans HF3.out
      clear hG3
      go_upto_region 17 with (fail)
      refine wp_region_held_drew (S:=fun u=>u.cell? ⟨b5,o5+i * 12 + 1,none⟩=some (.int .i64 sq)∧u.cell? ⟨b5,o5+i * 12 + 3,none⟩=some (.int .i64 tb)) krA ⟨f1,f3⟩ (fun hHeld => ?_)
      refine tkH 0 hHeld ?_
      refine tkH 1 hHeld ?_
      refine tkH 2 hHeld ?_
      refine tkH 3 hHeld ?_
      refine tkH 4 hHeld ?_
      refine tkH 5 hHeld ?_
      refine tkH 6 hHeld ?_
      refine tkH 8 hHeld ?_
      refine tkH 9 hHeld ?_
      refine tkH 10 hHeld ?_
      refine tkH 11 hHeld ?_
      refine tkH 12 hHeld ?_
      refine wpAnyH_ready (rs := [7]) krA spA ?_
      refine AllReadyH.cons rfl (fun K hK => ?_) AllReadyH.nil
      go_simp
      refine (tape_Next g b 4 _ (HK3.out.below brf.drew) omA omA).mono ?_
      rintro e w4 ⟨r4,rfl,hr4,hk4,hg4⟩
      have hG4:=grown_trans (grown_drew HG3.out) hg4
      have HG4:=qh hG4
      have HK4:=qh hk4
      have hz4:=hG4.size
      have HO4:=qh ((HO3.out.below brf.drew nlr).grown hg4 hgl)
      have hr4':r4 ≤ 4:=by rcases hr4 with h|h <;> omega
      have f14:=(keepC hG4 b5 hb5 omA _).trans HF1.out
      have f34:=(keepC hG4 b5 hb5 omA _).trans HF3.out
      have hrow:=HO4.out.row
      clear hr4 hk4 hg4 hG4
      go_wp2_with fail
      refine hK.out _ _ ⟨f14,f34⟩ (fun hHeld => ?_)
      clear hK K
      (try simp only [Act.put,gP6])
      have hb54:b5<w4.heap.size:=by omega
      have hbA : ∀ q,(w4.alloc (.cells #[.int .i64 tb, .int .i64 r4, .int .i64 sq] 56)).cell? ⟨b5,q,none⟩=w4.cell? ⟨b5,q,none⟩:=fun q=>((Below.refl w4.heap.size w4).alloc nlr _).cell (p:=⟨b5,q,none⟩) hb54
      refine tkH 13 hHeld ?_
      refine wpAnyH_ready (rs := [14]) krA spA ?_
      refine AllReadyH.cons rfl (fun K hK => ?_) AllReadyH.nil
      go_simp
      refine hK.out _ _ ⟨(hbA _).trans f14,(hbA _).trans f34⟩ (fun hHeld => ?_)
      clear hK K
      (try simp only [Act.put,gP6])
      refine wpAnyH_ready (rs := [15]) krA spA ?_
      refine AllReadyH.cons rfl (fun K hK => ?_) AllReadyH.nil
      (refine step_append_list _ rfl (.tmp 69) (.tmp 83) 40 rfl 56 i0 _ Vn.cells 3 24 Tryz.underlying40 hi0 hz0 hz1 hz2 rfl omA vn_len vn_one w.heap.size _ out1 rfl (HO4.out.alloc _) _ _ _ [⟨tb,(r4:Int),sq⟩] rfl rfl (Blk.one (enc:=Vn.cells) (x:=⟨tb,(r4:Int),sq⟩) (Blk.new' rfl) spA) smA mxA smA ?_;intro v6 w6 hown6 hg6 hat6)
      have HOWN6:=qh hown6
      have HK6:Hid (IsTape w6 g b):=qh ((HK4.out.alloc _).grownO hg6 (fun e=>by have:=hrow _ e.symm;omega) (fun e=>by have:=hrow _ e.symm;omega))
      have HG6:Hid (w.grownBy w6 (some g)):=qh (grown_newO (grown_alloc HG4.out _) hg6 hrow)
      clear hown6 hg6 hat6
      refine hK.out _ _ ⟨(keepC HG6.out b5 hb5 omA _).trans HF1.out,(keepC HG6.out b5 hb5 omA _).trans HF3.out⟩ (fun hHeld => ?_)
      clear hK K
      (try simp only [Act.put,gP6])
      refine tkH 16 hHeld ?_
      refine wpAnyH_done krA ?_ _
      clear hHeld
      go_wp2_with fail
      go_roundw
      case rel=>exact ⟨i + 1,_,by omega,by go_num,HOWN6.out,HS1.out.snoc ⟨hlt1,by simp only;omega,hlt2⟩,by simp;omega,HK6.out,HG6.out⟩
      case measure=>exact meA
     ·have h30':((r3:Int) == 0)=false:=by simp;omega
      clear h30 hG3
      go_wp2_with fail
      go_roundw
      case rel=>exact ⟨i + 1,out1,by omega,by go_num,HO3.out,HS1.out,by omega,HK3.out,HG3.out⟩
      case measure=>exact meA
    ·have hil':decide (i<l.length)=false:=by simpa using hil
     go_wp2_with fail
     go_ret
     exact ⟨_,_,rfl,HO1.out,HS1.out,by omega,HK1.out,HG1.out⟩
end Go.Proofs.YtjhnpnhpmdkpcaaGreat
