/-
  Contracts and plain laws of this seat, part 73.
-/
import Derived.Test.YtjhnpnhpmdkpcaaGreatD58
import Derived.Test.YtjhnpnhpmdkpcaaGreatD30
set_option linter.unusedVariables false
set_option linter.unusedSimpArgs false
set_option maxRecDepth 100000
set_option maxHeartbeats 16000000
namespace Go.Proofs.YtjhnpnhpmdkpcaaGreat
open Go.RowKit Go
theorem Bt(g b B:Nat)(LA:Option Addr)(lc m:Nat)(l:List Chg)(w:World)(hk:aM w g b)(hgB:g<B)
 (hl:ag w w.heap.size Chg.cells 12 LA l) (hlu:∀a,LA=some a→B≤a.block) (hlm:l.length=m) (hl6:m≤1000) (hlr:∀x∈l,(-1≤x.table∧x.table≤1000) ∧ 0≤x.seq∧x.seq≤1073741824):
 Calls Tryz.prog 25 #[.pointer (some ⟨g,0,none⟩),.slice LA m lc] w fun e w' =>
  ∃v out,e=.returned v∧ak w' w.heap.size 51 Src.cells 2 v out∧sS out∧out.length≤1000∧aM w' g b∧w.grownBy w' (some g):=by
 subst hlm
 obtain⟨i0,hi0,hz0,hz1,hz2⟩:=info_parts Pb
 have hgl:=hk.ltg
 have hbl:=hk.lt
 have HK:=qh hk
 have HL:=qh hl
 have HLU:=qh hlu
 have HLR:=qh hlr
 clear hk hl hlu hlr
 go_enter Tryz.func25,Tryz.ntmps25
 go_wp2_with fail
 go_loopw [5,6] (fun vo vi wi =>∃(i:Nat) (out:List Src),i≤l.length∧vi=.int .i64 i∧ak wi w.heap.size 51 Src.cells 2 vo out∧sS out∧out.length≤i∧aM wi g b∧w.grownBy wi (some g)) (fun _ vi _=>l.length-(intOf vi).toNat)
 case atStart=>exact⟨0,[],Nat.zero_le _,rfl,ak.nil,fun x hx=>(by cases hx),Nat.zero_le _,HK.out,aV _ brf⟩
 case round =>
  obtain⟨i,xX,hi1,rfl,hown1,D6,hl1,hk1,hg1⟩:=hrel
  have HO1:=qh hown1
  have HS1:=qh D6
  have HK1:=qh hk1
  have HG1:=qh hg1
  have hz1':=hg1.size
  clear hown1 D6 hk1
  by_cases hil:i<l.length
  rotate_left
  ·have Cm:decide (i<l.length)=false:=by simpa using hil
   have WO:decide ((i:Int)<(l.length:Int))=false:=by simp;omega
   go_wp2_with fail
   go_ret
   exact⟨_,xX,rfl,HO1.out,HS1.out,by omega,HK1.out,HG1.out⟩
  have Cm:decide (i<l.length)=true:=by simpa using hil
  have WO:decide ((i:Int)<(l.length:Int))=true:=by simp;omega
  obtain⟨b5,o5,rfl,hb5,hc5⟩:=HL.out.get hil
  have hB5:=HLU.out _ rfl
  simp only at hB5
  obtain⟨⟨f0,f1,_,f3⟩,_⟩:=Chg.kS hc5
  obtain⟨hlt1,hlt2⟩:=HLR.out l[i] (lgm hil)
  obtain⟨kd,hkd⟩:∃x,l[i].kind=x:=⟨_,rfl⟩
  obtain⟨sq,hsq⟩:∃x,l[i].seq=x:=⟨_,rfl⟩
  obtain⟨tb,htb⟩:∃x,l[i].table=x:=⟨_,rfl⟩
  rw[hkd]at f0
  rw[hsq]at f1 hlt2
  rw[htb]at f3 hlt1
  have HF1:=qh f1
  have HF3:=qh f3
  replace f0:=(j3 hg1 b5 hb5 omA _).trans f0
  clear hc5 hsq htb hkd f1 f3 hg1
  by_cases hk1:kd=1
  rotate_left
  ·have RP:(kd == 1)=false:=by simpa using hk1
   have WJ:decide (kd=1)=false:=by simpa using hk1
   go_wp2_with fail
   go_roundw
   case rel=>exact⟨i+1,xX,by omega,by go_num,HO1.out,HS1.out,by omega,HK1.out,HG1.out⟩
   case measure=>exact meA
  subst hk1
  go_wp2_with fail
  refine(aJ g b 3 _ HK1.out omA omA).mono ?_
  rintro e w2 ⟨r3,rfl,hr3,hk3,hg3⟩
  have HK3:=qh hk3
  have hzw:=hg3.size
  have hG3:=ay HG1.out hg3
  have HG3:=qh hG3
  have HO3:=qh (HO1.out.grown hg3 hgl)
  clear hr3 hk3 hg3
  by_cases h30:r3=0
  ·subst h30
   have f1:=(j3 hG3 b5 hb5 omA _).trans HF1.out
   have f3:=(j3 hG3 b5 hb5 omA _).trans HF3.out
   clear hG3
   go_upto_region 6 with (fail)
   refine wp_region_held_drew (S:=fun u=>u.cell? ⟨b5,o5+i*12+1,none⟩=some (.int .i64 sq)∧u.cell? ⟨b5,o5+i*12+3,none⟩=some (.int .i64 tb)) krA ⟨f1,f3⟩ (fun hHeld =>?_)
   refine tkH 0 hHeld ?_
   refine tkH 1 hHeld ?_
   refine tkH 2 hHeld ?_
   refine tkH 3 hHeld ?_
   refine tkH 4 hHeld ?_
   refine tkH 5 hHeld ?_
   refine tkH 6 hHeld ?_
   refine tkH 7 hHeld ?_
   refine tkH 8 hHeld ?_
   refine tkH 9 hHeld ?_
   refine tkH 10 hHeld ?_
   refine tkH 11 hHeld ?_
   have hzd:w2.heap.size≤w2.drew.heap.size:=Nat.le_refl _
   have HOD:Hid (ak w2.drew w.heap.size 51 Src.cells 2 _ xX):=qh (HO3.out.below brf.drew nlr)
   have HKD:=qh (HK3.out.below brf.drew)
   have HGD:=qh (lH HG3.out)
   have hrow:=HOD.out.row
   have Yv:=HOD.out.lt
   have YO:b5<w2.heap.size:=by omega
   refine wpAnyH_ready (rs:= [12]) krA spA ?_
   refine AllReadyH.cons rfl (fun K hK =>?_) AllReadyH.nil
   go_simp
   refine hK.out _ _ ⟨?_,?_⟩ (fun hHeld =>?_)
   ·go_simp
   ·go_simp
   clear hK K
   (try simp only[Act.put,gP6])
   clear f1 f3 f0
   refine wpAnyH_ready (rs:= [13]) krA spA ?_
   refine AllReadyH.cons rfl (fun K hK =>?_) AllReadyH.nil
   (refine ax _ rfl (.tmp 24) (.tmp 36) 42 rfl 51 i0 _ Src.cells 2 16 Tryz.underlying42 hi0 hz0 hz1 hz2 rfl omA Ig OJ w.heap.size u5 xX rfl (HOD.out.alloc _) _ _ _ [⟨tb,sq⟩] rfl rfl (Blk.one (enc:=Src.cells) (x:=⟨tb,sq⟩) (Blk.new' rfl) spA) smA mxA smA ?_;intro v6 v6w hown6 hg6 qY)
   have XO:=qh hown6
   have HK6:Hid (aM v6w g b):=qh ((HKD.out.alloc _).vB hg6 (fun e=>by have:=hrow _ e.symm;omega) (fun e=>by have:=hrow _ e.symm;omega))
   have HG6:Hid (w.grownBy v6w (some g)):=qh (gN (bM HGD.out _) hg6 hrow)
   clear hown6 hg6 qY
   refine hK.out _ _ ⟨(j3 HG6.out b5 hb5 omA _).trans HF1.out,(j3 HG6.out b5 hb5 omA _).trans HF3.out⟩ (fun hHeld =>?_)
   clear hK K
   (try simp only[Act.put,gP6])
   refine tkH 14 hHeld ?_
   refine wpAnyH_done krA ?_ _
   clear hHeld
   go_wp2_with fail
   go_roundw
   case rel=>exact⟨i+1,_,by omega,by go_num,XO.out,HS1.out.snoc ⟨by simp only;omega,by simp only;omega,by simp only;omega,by simp only;omega⟩,by simp;omega,HK6.out,HG6.out⟩
   case measure=>exact meA
  ·have U4:((r3:Int) == 0)=false:=by simp;omega
   clear h30 hG3
   go_wp2_with fail
   go_roundw
   case rel=>exact⟨i+1,xX,by omega,by go_num,HO3.out,HS1.out,by omega,HK3.out,HG3.out⟩
   case measure=>exact meA
end Go.Proofs.YtjhnpnhpmdkpcaaGreat
