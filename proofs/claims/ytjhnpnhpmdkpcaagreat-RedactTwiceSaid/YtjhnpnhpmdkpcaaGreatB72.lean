/-
  Contracts and plain laws of this seat, part 72: RedCl.
-/
import Derived.Test.YtjhnpnhpmdkpcaaGreatB68
import Derived.Test.YtjhnpnhpmdkpcaaGreatB64
import Derived.Test.YtjhnpnhpmdkpcaaGreatB57
import Derived.Test.YtjhnpnhpmdkpcaaGreatB1
set_option linter.unusedVariables false
set_option linter.unusedSimpArgs false
set_option maxRecDepth 100000
set_option maxHeartbeats 16000000
namespace Go.Proofs.YtjhnpnhpmdkpcaaGreat
open Go.RowKit Go
def CleanP (v:List Vn) (s:List Src) (rt:List RTab):Prop := ∀ i (h:i<rt.length),∀ r∈rt[i].recs,(⟨(i:Int),r.seq.headD 0⟩:Src) ∉ s ∧ ∀ j (hj:j<r.row.length) (hs:j<r.seq.length),0<j→r.row[j].kind ≠ 0→(⟨(i:Int),(j:Int),r.seq[j]⟩:Vn) ∉ v
theorem clean_red {v:List Vn} {s:List Src} {pl:List (List PRec)} {rt:List RTab} (h:rt.map pureT=redE v s pl):CleanP v s rt:=fun i hi r hr=>by
 have h1:(rt.map pureT)[i]'(by simpa using hi)=(redE v s pl)[i]'(by rw [← h];simpa using hi):=by simp only [h]
 have hi2:i<pl.length:=by
  have h2:=congrArg List.length h
  rw [redE_len,List.length_map] at h2
  omega
 rw [List.getElem_map,redE_get v s pl hi2] at h1
 have h2:pureR r∈redT v s i pl[i]:=by
  rw [← h1]
  exact List.mem_map_of_mem hr
 obtain ⟨r0,h0,hst,he⟩:=mem_redT.1 h2
 obtain ⟨A,c,row,SA,sc,sq,dy⟩:=r
 have e1:row=redRow v i r0.1 r0.2.1:=congrArg Prod.fst he
 have e2:sq=r0.2.1:=congrArg (fun x=>x.2.1) he
 refine ⟨?_,fun j hj hs h0j hk => ?_⟩
 ·have h3:=stays_iff.1 hst
  show (⟨(i:Int),sq.headD 0⟩:Src) ∉ s
  rw [e2]
  exact h3
 ·subst e1 e2
  simp only at hj hs hk ⊢
  intro hin
  rw [redRow_get] at hk
  have e3:r0.2.1.getD j 0=r0.2.1[j]:=by rw [List.getD_eq_getElem?_getD,List.getElem?_eq_getElem hs];rfl
  rw [e3,if_pos ⟨h0j,hin⟩] at hk
  exact hk rfl
theorem idle_RedClean (w:World):CallsD Tryz.prog 46 #[] .returning w fun e u' w'=>e = .returned (.tuple #[])∧u' = .returning∧w'=w:=by
 refine callsD_of_wpS Tryz.func46 rfl fun c₀ cs hu => ?_
 apply wpS_region
 cases c₀
 simp_all [wpOpsS,go_sem,recoverD,Tryz.ntmps46,bodyPostS,results,Tryz.results46]
theorem red_Clean (A:Option Addr) (c m:Nat) (ts:List Tab) (RA:Option Addr) (rc n:Nat) (rt:List RTab) (VA:Option Addr) (vc vn:Nat) (v:List Vn) (GA:Option Addr) (gc gn:Nat) (s:List Src) (w:World)
 (ht:TabsIn w w.heap.size A ts) (hm:ts.length=m) (hs:SaneCat ts) (hR:RTabsIn w w.heap.size RA rt) (hn:rt.length=n) (hok:RTabsOk ts rt) (hcl:CleanP v s rt)
 (hV:SliceIs w w.heap.size Vn.cells 3 VA v) (hvn:v.length=vn) (hv6:vn ≤ 1000000) (hvk : ∀ x∈v,∃ kl,Go.keyOf Tryz.prog 56 (vnV x)=some kl)
 (hG:SliceIs w w.heap.size Src.cells 2 GA s) (hgn:s.length=gn) (hg6:gn ≤ 1000000) (hgk : ∀ x∈s,∃ kl,Go.keyOf Tryz.prog 51 (srcK x)=some kl) :
 Calls Tryz.prog 18 #[.agg #[.slice A m c, .slice none 0 0, .slice none 0 0, .slice none 0 0, .slice none 0 0, .slice none 0 0, .slice none 0 0, .slice none 0 0], .slice RA n rc, .slice VA vn vc, .slice GA gn gc] w fun e w'=>e = .returned (.bool true)∧Below w.heap.size w w':=by
 subst hn hvn hgn
 have HVAL:=qh (fun u (hu:Below w.heap.size w u)=>tab_ValidZ A c m ts RA rc rt.length rt u (ht.next hu) hm hs (hR.next hu) rfl (rok_sane hok) hok)
 have HR:=qh hR
 have HOK:=qh hok
 have HCL:=qh hcl
 have HV:=qh hV
 have HVK:=qh hvk
 have HG:=qh hG
 have HGK:=qh hgk
 have h8:rt.length ≤ 8:=by have:=hok.cat.len;have:=hok.len;omega
 clear ht hs hR hok hcl hV hvk hG hgk
 go_enter_defers Tryz.func18,Tryz.ntmps18
 go_upto_region 2 with (fail)
 refine abs_world (P:=fun u=>Code.wp _ _ _ _ u) (R:=fun u=>Blk u w.heap.size 34 #[.slice A m c, .slice none 0 0, .slice none 0 0, .slice none 0 0, .slice none 0 0, .slice none 0 0, .slice none 0 0, .slice none 0 0]∧Below w.heap.size w u) ⟨?_,?_⟩ ?_
 ·exact Blk.new _ _ _
 ·exact belA
 rintro W ⟨hC,hbW⟩
 obtain ⟨p0,p1,p2,p3,p4,p5,p6,p7⟩:=Cat.blk hC
 clear hC
 go_upto_region 4 with (go_at_call 36;(with_reducible refine (HVAL.out _ hbW).mono ?_);rintro e w1 ⟨rfl,hb1⟩;have hx1:Below w.heap.size w w1:=below_nextN hbW hb1 hbW.size)
 clear p0 p1 p2 p3 p4 p5 p6 p7
 go_upto_region 5 with (first
  | (go_at_call 37;(with_reducible refine (red_setOfV VA vc v.length v _ (HV.out.next hx1) rfl hv6 HVK.out).mono ?_);rintro e w2 ⟨⟨bv,rfl,_,hMv⟩,hb2⟩;have hx2:Below w.heap.size w w2:=below_nextN hx1 hb2 hx1.size;have HMv:=qh hMv;clear hMv)
  | (go_at_call 38;(with_reducible refine (red_setOfS GA gc s.length s _ (HG.out.next hx2) rfl hg6 HGK.out).mono ?_);rintro e w3 ⟨⟨bs,rfl,_,hMs⟩,hb3⟩;have hx3:Below w.heap.size w w3:=below_nextN hx2 hb3 hx2.size;have HMs:=qh hMs;have HMv3:=qh (HMv.out.below hb3 HMv.out.lt);have hz3:=hx3.size;clear hMs))
 have hvl:=HMv3.out.lt
 have hsl:=HMs.out.lt
 have HR3:=qh (HR.out.next hx3)
 have HLS:Hid (∀ (i z:Int),(-9223372036854775808≤i∧i ≤ 9223372036854775807)→(-9223372036854775808≤z∧z ≤ 9223372036854775807)→(⟨i,z⟩:Src) ∉ s → ∀ U,Below w3.heap.size w3 U→(Instr.lookup 91 (.map (some bs)) (.agg #[.int .i64 i, .int .i64 z]) false).run Tryz.prog U = .ok (.bool false) U):=qh fun i z hi hz hno U hU=>by
  obtain ⟨kl',hkl'⟩:=srcK_key (a:=i) (b:=z) hi hz
  have h:=(HMs.out.below hU hsl).look srcK_keyed Tryz.underlying91 (zero_boolR U) hkl'
  have h2:((setF srcK s) (.agg #[.int .i64 i, .int .i64 z])).getD (.bool false) = .bool (decide ((⟨i,z⟩:Src)∈s)):=setF_get srcK_inj s ⟨i,z⟩
  rw [h2,decide_eq_false hno] at h
  exact h
 have HLV:Hid (∀ (i j z:Int),(-9223372036854775808≤i∧i ≤ 9223372036854775807)→(-9223372036854775808≤j∧j ≤ 9223372036854775807)→(-9223372036854775808≤z∧z ≤ 9223372036854775807)→(⟨i,j,z⟩:Vn) ∉ v → ∀ U,Below w3.heap.size w3 U→(Instr.lookup 88 (.map (some bv)) (.agg #[.int .i64 i, .int .i64 j, .int .i64 z]) false).run Tryz.prog U = .ok (.bool false) U):=qh fun i j z hi hj hz hno U hU=>by
  obtain ⟨kl',hkl'⟩:=vn_key (a:=i) (b:=j) (c:=z) hi hj hz
  have h:=(HMv3.out.below hU hvl).look vn_keyed Tryz.underlying88 (zero_boolR U) hkl'
  have h2:((setF vnV v) (.agg #[.int .i64 i, .int .i64 j, .int .i64 z])).getD (.bool false) = .bool (decide ((⟨i,j,z⟩:Vn)∈v)):=setF_get vnV_inj v ⟨i,j,z⟩
  rw [h2,decide_eq_false hno] at h
  exact h
 clear HMv HMs HMv3 HR HV HG HVK HGK HVAL
 go_wp2_with fail
 go_loopw [27] (fun vi wr => ∃ i:Nat,i≤rt.length∧vi = .int .i64 i∧Below w3.heap.size w3 wr) (fun vi _=>rt.length - (intOf vi).toNat)
 case atStart=>exact ⟨0,Nat.zero_le _,rfl,Below.refl _ _⟩
 case round =>
  obtain ⟨i,hi,rfl,hbr⟩:=hrel
  have hzr:=hbr.size
  by_cases hlt:i<rt.length
  rotate_left
  ·have hlt':decide (i<rt.length)=false:=by simpa using hlt
   have hlti:decide ((i:Int)<(rt.length:Int))=false:=by simp;omega
   go_wp2_with fail
   refine leaves_cons (f := 46) (args := #[]) spA (by simp [go_sem]) ?_
   refine (idle_RedClean _).mono ?_
   rintro e u' w'' ⟨rfl,rfl,rfl⟩
   refine ⟨_,results_tmp rfl _ _ _,?_⟩
   exact ⟨rfl,hx3.trans (hbr.mono hz3)⟩
  have hlt':decide (i<rt.length)=true:=by simpa using hlt
  have hlti:decide ((i:Int)<(rt.length:Int))=true:=by simp;omega
  obtain ⟨bx,ox,rfl,hbx,hcx⟩:=HR3.out.1.get hlt
  have cx:=(hbr.cell (p:=⟨bx,ox+i,none⟩) hbx).trans (by have h:=hcx 0 _ rfl;simp only [Nat.mul_one,Nat.add_zero] at h;exact h)
  have hRi:=HR3.out.2 rt[i] (lgm hlt)
  have hci:=rok_cells HOK.out rt[i] (lgm hlt)
  have hsi:=rok_sane HOK.out
  have hl6:=hsi.recs rt[i] (lgm hlt)
  have hr6:=hsi.row rt[i] (lgm hlt)
  have hcp:=HCL.out i hlt
  obtain ⟨⟨TA,tc,recs⟩,hx⟩ : ∃ x:RTab,rt[i]=x:=⟨_,rfl⟩
  rw [hx] at cx hRi hci hl6 hr6 hcp
  simp only at cx hRi hci hl6 hr6 hcp
  have HRi:=qh hRi
  have HCI:=qh hci
  have HR6:=qh hr6
  have HCP:=qh hcp
  clear hcx hx hRi hci hr6 hsi hcp
  go_upto_region 9 with (fail)
  clear cx
  have hbr0:=hbr
  clear hbr hzr
  go_loopw [34] (fun vj wr => ∃ j:Nat,j≤recs.length∧vj = .int .i64 j∧Below w3.heap.size w3 wr) (fun vj _=>recs.length - (intOf vj).toNat)
  case atStart=>exact ⟨0,Nat.zero_le _,rfl,hbr0⟩
  case round =>
   clear hbr0
   obtain ⟨j,hj,rfl,hbr⟩:=hrel
   have hzr:=hbr.size
   by_cases hjl:j<recs.length
   rotate_left
   ·have hjl':decide (j<recs.length)=false:=by simpa using hjl
    have hjli:decide ((j:Int)<(recs.length:Int))=false:=by simp;omega
    go_wp2_with fail
    go_roundw
    case rel=>exact ⟨i + 1,by omega,by go_num,hbr⟩
    case measure=>exact meA
   have hjl':decide (j<recs.length)=true:=by simpa using hjl
   have hjli:decide ((j:Int)<(recs.length:Int))=true:=by simp;omega
   obtain ⟨b3,o3,rfl,hb3,hc3⟩:=HRi.out.1.get hjl
   have d0:=(hbr.cell (p:=⟨b3,o3+j * 3,none⟩) hb3).trans (hc3 0 _ rfl)
   have d1:=(hbr.cell (p:=⟨b3,o3+j * 3 + 1,none⟩) hb3).trans (hc3 1 _ rfl)
   have d2:=(hbr.cell (p:=⟨b3,o3+j * 3 + 2,none⟩) hb3).trans (hc3 2 _ rfl)
   have hri:=HRi.out.2 recs[j] (lgm hjl)
   have hcl:=HCI.out recs[j] (lgm hjl)
   have hr6:=HR6.out recs[j] (lgm hjl)
   have hcp:=HCP.out recs[j] (lgm hjl)
   obtain ⟨⟨RA2,rc2,row,SA,sc,sq,dy⟩,hyE⟩ : ∃ x:Rcd,recs[j]=x:=⟨_,rfl⟩
   rw [hyE] at d0 d1 d2 hri hcl hr6 hcp
   simp only at d0 d1 d2 hri hcl hr6 hcp
   obtain ⟨h0r,hrs,hsb⟩:=hcl
   have hs0 : 0<sq.length:=by omega
   have HRS:=qh hrs
   have HSB:=qh hsb
   have HCV:=qh hcp.2
   have hs6:sq.length ≤ 1000000:=by omega
   clear hrs
   have hs0':decide (0<sq.length)=true:=by simpa using hs0
   have hs0i:decide ((0:Int)<(sq.length:Int))=true:=by simp;omega
   have HRI:=qh hri
   obtain ⟨sb,so,rfl,hsbb,hsc⟩:=hri.2.get hs0
   have s0:=(hbr.cell (p:=⟨sb,so,none⟩) hsbb).trans (by have h:=hsc 0 _ rfl;simp only [Nat.zero_mul,Nat.add_zero] at h;exact h)
   obtain ⟨z0,hz0⟩ : ∃ z,sq[0]=z:=⟨_,rfl⟩
   have hzb:=hsb sq[0] (lgm hs0)
   rw [hz0] at s0 hzb
   have HNO:Hid ((⟨(i:Int),z0⟩:Src) ∉ s):=qh (by
    have e1:sq.headD 0=z0:=by rw [← hz0];cases sq with
     | nil=>simp at hs0
     | cons a t=>rfl
    rw [← e1]
    exact hcp.1)
   clear hc3 hyE hri hsc hz0 hcp hsb
   go_upto_region 11 with (fail)
   obtain ⟨X,hXe⟩ : ∃ X,wr.heap.size=X:=⟨_,rfl⟩
   have HXE:=qh hXe
   rw [hXe]
   refine abs_world (P:=fun u=>Code.wp _ _ _ _ u) (R:=fun u=>Blk u X 48 #[.slice RA2 row.length rc2, .slice (some ⟨sb,so,none⟩) sq.length sc, .int .i64 dy]∧Below wr.heap.size wr u) ⟨?_,?_⟩ ?_
   ·exact Blk.new' hXe
   ·exact belA
   clear hXe d0 d1 d2
   rintro W9 ⟨hB9,hb9⟩
   have hx9:=below_nextN hbr hb9 hzr
   have hz9:=hx9.size
   have hXz:=hB9.lt
   have HB9:=qh hB9
   have e0:=hB9.cell 0
   have e1:=hB9.cell 1
   simp only [gE3] at e0 e1
   replace s0:=(hb9.cell (p:=⟨sb,so,none⟩) (show sb<wr.heap.size by omega)).trans s0
   have hlk:=HLS.out i z0 omA omA HNO.out W9 hx9
   clear hB9
   go_upto_region 14 with (fail)
   clear hlk s0 e0 e1
   go_loopw [49] (fun vm wr => ∃ m:Nat,m≤row.length∧vm = .int .i64 m∧Below W9.heap.size W9 wr) (fun vm _=>row.length - (intOf vm).toNat)
   case atStart=>exact ⟨0,Nat.zero_le _,rfl,Below.refl _ _⟩
   case round =>
    obtain ⟨m,hm',rfl,hbm⟩:=hrel
    have hzm:=hbm.size
    have hxm:=below_nextN hx9 hbm hz9
    by_cases hml:m<row.length
    rotate_left
    ·have hml':decide (m<row.length)=false:=by simpa using hml
     have hmli:decide ((m:Int)<(row.length:Int))=false:=by simp;omega
     go_wp2_with fail
     go_roundw
     case rel=>exact ⟨j + 1,by omega,by go_num,hxm⟩
     case measure=>exact meA
    have hml':decide (m<row.length)=true:=by simpa using hml
    have hmli:decide ((m:Int)<(row.length:Int))=true:=by simp;omega
    have hms:m<sq.length:=by rw [← HRS.out];exact hml
    obtain ⟨b5,o5,rfl,hb5,hc5⟩:=HRI.out.1.get hml
    have hno:=HCV.out m hml hms
    obtain ⟨rv,hrv⟩ : ∃ x,row[m]=x:=⟨_,rfl⟩
    have v0:=(hxm.cell (p:=⟨b5,o5+m * 3,none⟩) hb5).trans (hc5 0 _ rfl)
    have v1:=(hxm.cell (p:=⟨b5,o5+m * 3 + 1,none⟩) hb5).trans (hc5 1 _ rfl)
    have v2:=(hxm.cell (p:=⟨b5,o5+m * 3 + 2,none⟩) hb5).trans (hc5 2 _ rfl)
    rw [hrv] at v0 v1 v2 hno
    have HNOV:=qh hno
    clear hrv hc5 hno
    go_upto_region 16 with (fail)
    obtain ⟨Y,hYe⟩ : ∃ Y,wr.heap.size=Y:=⟨_,rfl⟩
    rw [hYe]
    refine abs_world (P:=fun u=>Code.wp _ _ _ _ u) (R:=fun u=>Blk u Y 53 #[.int .i64 rv.kind, .int .i64 rv.num, .string rv.text]∧Below wr.heap.size wr u) ⟨?_,?_⟩ ?_
    ·exact Blk.new' hYe
    ·exact belA
    clear hYe v0 v1 v2
    rintro V ⟨hY,hbV⟩
    have hqV:=below_nextN hbm hbV hzm
    have hxV:=below_nextN hxm hbV hxm.size
    have hzV:=hxV.size
    have y0:=hY.cell 0
    have e0:=(HB9.out.below hqV hXz).cell 0
    have e1:=(HB9.out.below hqV hXz).cell 1
    have e2:=(HB9.out.below hqV hXz).cell 2
    simp only [gE3] at y0 e0 e1 e2
    by_cases hm0:m = 0
    ·subst hm0
     go_wp2_with fail
     go_roundw
     case rel=>exact ⟨0 + 1,by omega,by go_num,hqV⟩
     case measure=>exact meA
    ·have hma:decide ((m:Int) = 0)=false:=by simp;omega
     have hmb:((m:Int) == 0)=false:=by simp;omega
     have hmc:((m:Int) != 0)=true:=by simp;omega
     by_cases hk0:rv.kind = 0
     ·rw [hk0] at y0
      go_wp2_with fail
      go_roundw
      case rel=>exact ⟨m + 1,by omega,by go_num,hqV⟩
      case measure=>exact meA
     ·have hka:decide (rv.kind = 0)=false:=by simpa using hk0
      have hkb:(rv.kind == 0)=false:=by simpa using hk0
      have hkc:(rv.kind != 0)=true:=by simpa using hk0
      have hnv:=HNOV.out omA hk0
      have hzm2:=HSB.out sq[m] (lgm hms)
      have HSV:=qh (HRI.out.2.next hxV)
      obtain ⟨zm,hzE⟩ : ∃ z,sq[m]=z:=⟨_,rfl⟩
      rw [hzE] at hnv hzm2
      have HNV:=qh hnv
      clear hnv
      go_wp2_with (go_at_call 41;go_must ((with_reducible refine (red_versionOf i dy m (some ⟨b5,o5,none⟩) row.length rc2 (some ⟨sb,so,none⟩) sc sq _ HSV.out hms hzE).mono ?_);rintro e U ⟨rfl,hbU⟩;have hlk:=HLV.out i m zm omA omA omA HNV.out U (below_nextN hxV hbU hzV)))
      go_roundw
      case rel=>exact ⟨m + 1,by omega,by go_num,below_nextN hqV hbU (by have:=hqV.size;omega)⟩
      case measure=>exact meA
end Go.Proofs.YtjhnpnhpmdkpcaaGreat
