/-
  For every list of numbers the law RedactTwice returns true: redacting with two lists, one after the other in either order, is redacting with both together, and the result is clean. No condition.
-/
import Derived.Test.YtjhnpnhpmdkpcaaGreatB70
import Derived.Test.YtjhnpnhpmdkpcaaGreatB67
import Derived.Test.YtjhnpnhpmdkpcaaGreatB29
import Derived.Test.YtjhnpnhpmdkpcaaGreatB16
import Derived.Test.YtjhnpnhpmdkpcaaGreatB2
import Derived.Test.YtjhnpnhpmdkpcaaGreatB55
import Derived.Test.YtjhnpnhpmdkpcaaGreatB58
import Derived.Test.YtjhnpnhpmdkpcaaGreatB61
import Derived.Test.YtjhnpnhpmdkpcaaGreatB72
import Derived.Test.YtjhnpnhpmdkpcaaGreatB31
import Derived.Test.YtjhnpnhpmdkpcaaGreatRows
import Derived.WalkKit
import Derived.ProofKit
import Derived.OpenShut
import Derived.ShutString
import Derived.ChangeOld
import Derived.Below
import Derived.SizedLaws
set_option linter.unusedVariables false
set_option linter.unusedSimpArgs false
set_option maxRecDepth 100000
set_option maxHeartbeats 16000000
namespace Go.Proofs.YtjhnpnhpmdkpcaaGreat
open Go.RowKit Go
theorem SliceIs.grownX {α : Type} {enc : α → List Value} {w w':World} {B k:Nat} {A:Option Addr} {l:List α} {row:Option Nat} (h:SliceIs w B enc k A l) (hB:B≤w.heap.size) (hg:w.grownBy w' row) (hne : ∀ a,A=some a→a.block<B→some a.block≠row):SliceIs w' B enc k A l:=fun hl=>by
 obtain ⟨b,o,rfl,hb,hc⟩:=h hl
 exact ⟨b,o,rfl,hb,fun i hi j u hu=>(World.cell?_of_block (hg.block b (by omega) (hne _ rfl hb))).trans (hc i hi j u hu)⟩
structure RdI (w:World) (q0:Nat) (CA:Option Addr) (cc:Nat) (ts:List Tab) (RA:Option Addr) (rt:List RTab) (VA:Option Addr) (v:List Vn) (WA:Option Addr) (v2:List Vn) (GA:Option Addr) (s:List Src) (FA:Option Addr) (s2:List Src) (BA:Option Addr) (DA:Option Addr):Prop where
 cat:Blk w q0 34 #[.slice CA ts.length cc, .slice none 0 0, .slice none 0 0, .slice none 0 0, .slice none 0 0, .slice none 0 0, .slice none 0 0, .slice none 0 0]
 tabs:TabsIn w w.heap.size CA ts
 x:RTabsIn w w.heap.size RA rt
 fv:SliceIs w w.heap.size Vn.cells 3 VA v
 fw:SliceIs w w.heap.size Vn.cells 3 WA v2
 fs:SliceIs w w.heap.size Src.cells 2 GA s
 fr:SliceIs w w.heap.size Src.cells 2 FA s2
 bv:SliceIs w w.heap.size Vn.cells 3 BA (v++v2)
 bs:SliceIs w w.heap.size Src.cells 2 DA (s++s2)
theorem RdI.next {w w':World} {q0:Nat} {CA:Option Addr} {cc:Nat} {ts:List Tab} {RA:Option Addr} {rt:List RTab} {VA:Option Addr} {v:List Vn} {WA:Option Addr} {v2:List Vn} {GA:Option Addr} {s:List Src} {FA:Option Addr} {s2:List Src} {BA DA:Option Addr} (h:RdI w q0 CA cc ts RA rt VA v WA v2 GA s FA s2 BA DA) (hb:Below w.heap.size w w'):RdI w' q0 CA cc ts RA rt VA v WA v2 GA s FA s2 BA DA :=
 ⟨h.cat.below hb h.cat.lt,h.tabs.next hb,h.x.next hb,h.fv.next hb,h.fw.next hb,h.fs.next hb,h.fr.next hb,h.bv.next hb,h.bs.next hb⟩
theorem keys_app {v v2:List Vn} (h : ∀ x∈v,∃ kl,Go.keyOf Tryz.prog 56 (vnV x)=some kl) (h2 : ∀ x∈v2,∃ kl,Go.keyOf Tryz.prog 56 (vnV x)=some kl) : ∀ x∈v++v2,∃ kl,Go.keyOf Tryz.prog 56 (vnV x)=some kl:=fun x hx=>by
 rcases List.mem_append.1 hx with h'|h'
 ·exact h x h'
 ·exact h2 x h'
theorem keys_appS {v v2:List Src} (h : ∀ x∈v,∃ kl,Go.keyOf Tryz.prog 51 (srcK x)=some kl) (h2 : ∀ x∈v2,∃ kl,Go.keyOf Tryz.prog 51 (srcK x)=some kl) : ∀ x∈v++v2,∃ kl,Go.keyOf Tryz.prog 51 (srcK x)=some kl:=fun x hx=>by
 rcases List.mem_append.1 hx with h'|h'
 ·exact h x h'
 ·exact h2 x h'
theorem twice_walk (A:Option Addr) (c:Nat) (t:List Int) (w:World) (hl:SliceIs w w.heap.size intCells 1 A t) (hn:t.length * 8 ≤ 140737488351232) :
 Calls Tryz.prog 4 #[.slice A t.length c] w fun e w'=>e = .returned (.bool true)∧Below w.heap.size w w':=by
 go_enter Tryz.func4,Tryz.ntmps4
 have HL0:=qh hl
 clear hl
 go_wp2_with fail
 refine (tape_New A c t _ HL0.out hn).mono ?_
 rintro e w1 ⟨⟨g,b,rfl,hg1,hb1,hk1⟩,hx1⟩
 have HK1:=qh hk1
 have hgl1:=hk1.ltg
 clear hk1 HL0
 go_wp2_with fail
 refine (tape_Tables g b 3 _ HK1.out (by omega) (by omega)).mono ?_
 rintro e w2 ⟨CA,cc,ts,rfl,ht2,hu2,hbd2,hs2,hok2,h02,hl32,hk2,hg2⟩
 have HK2:=qh hk2
 have HT2:=qh ht2
 have HU:=qh hu2
 have HS:=qh hs2
 have HOK:=qh hok2
 have hx2:Below w.heap.size w w2:=Below.grown hx1 hg2 hx1.size (fun q e=>by injection e with e;omega)
 have hz2:=hg2.size
 clear hk2 ht2 hu2 hbd2 hs2 hok2 hg2 HK1
 go_upto_region 3 with (fail)
 refine abs_world (P:=fun u=>Code.wp _ _ _ _ u) (R:=fun u=>Blk u w2.heap.size 34 #[.slice CA ts.length cc, .slice none 0 0, .slice none 0 0, .slice none 0 0, .slice none 0 0, .slice none 0 0, .slice none 0 0, .slice none 0 0]∧Below w2.heap.size w2 u) ⟨?_,?_⟩ ?_
 ·exact Blk.new' rfl
 ·exact belA
 rintro W ⟨hC,hbW⟩
 have HC:=qh hC
 have hzC:=hC.lt
 have HKW:=qh (HK2.out.below hbW)
 have hxW:Below w.heap.size w W:=below_nextN hx2 hbW hx2.size
 have HTW:=qh (HT2.out.next hbW)
 have hgW:g<W.heap.size:=HKW.out.ltg
 obtain ⟨p0,p1,p2,p3,p4,p5,p6,p7⟩:=Cat.blk hC
 clear hC HK2 HT2
 go_upto_region 4 with (go_at_call 9;(refine (tape_HistoryC g b w1.heap.size 8 CA cc ts.length ts _ HKW.out hgl1 HTW.out HU.out rfl HS.out HOK.out h02 (by omega)).mono ?_);rintro e u1 ⟨LA,lc,l,rfl,hll,hoc,hk3,hg3,hhist⟩;have hzg4:=hg3.size;have HC1:=qh (HC.out.grown hg3 (fun e=>by injection e with e;omega));have HT1:=qh (HTW.out.grown HU.out hgl1 hg3);have hx4:Below w.heap.size w u1:=Below.grown hxW hg3 hxW.size (fun q e=>by injection e with e;omega);have HK3:=qh hk3;have HOC1:=qh hoc;have HHIST:=qh hhist;have HL8:Hid (∀ x∈l,x.row.length ≤ 1000000):=qh (fun x hx=>Nat.le_trans (hoc.len x hx) (by omega));clear hk3 hg3 hoc hhist p0 p1 p2 p3 p4 p5 p6 p7;obtain ⟨p0,p1,p2,p3,p4,p5,p6,p7⟩:=Cat.blk HC1.out)
 have HORD:=qh (hist_ord HOK.out HHIST.out (by omega))
 go_upto_region 5 with (go_at_call 10;(with_reducible refine (ref07_Replay0 CA cc ts.length ts LA lc l.length l _ HT1.out rfl HS.out HOK.out HOC1.out.read rfl (by omega) HL8.out).mono ?_);rintro e u2 ⟨⟨RA,rc,rt,rfl,hrl,hrt,hru,hsh,hpu⟩,hb2⟩)
 have hz2':=hb2.size
 have HC2:=qh (HC1.out.below hb2 HC1.out.lt)
 have HT2:=qh (HT1.out.next hb2)
 have HK4:=qh (HK3.out.below hb2)
 have HOC2:=qh (HOC1.out.below hb2)
 have HRT2:=qh hrt
 have HCH:Hid (SliceIs u2 u2.heap.size Chg.cells 12 LA l):=qh HOC2.out.read.1
 have HRU:Hid (RUp W.heap.size RA rt):=qh (hru.mono hzg4)
 have HRL:=qh hrl
 have HROK:=qh (hist_rok HOK.out hpu HHIST.out)
 have HSM:=qh (rok_small HROK.out)
 have hx5:Below w.heap.size w u2:=below_nextN hx4 hb2 hx4.size
 have HLU:Hid (∀ a,LA=some a→W.heap.size≤a.block):=qh (own_up HOC1.out.own)
 clear hrt hru hsh hpu hb2 hrl HT1 HK3 HOC1 HC1 HC HTW HKW p0 p1 p2 p3 p4 p5 p6 p7
 have HKX:=HK4
 have HCX:=HC2
 have HTX:=HT2
 have HRX:=HRT2
 have hxc:=hx5
 have hgu:g<u2.heap.size:=by omega
 have hgz:u2.heap.size≤u2.heap.size:=Nat.le_refl _
 have TK1:True:=trivial
 have TK2:True:=trivial
 have TS1:True:=trivial
 have TS2:True:=trivial
 clear HK4 HC2 HT2 HRT2 hx5
 go_upto_region 6 with (first
  | (go_at_call 11;clear TK1;go_must ((with_reducible refine (tape_Cells g b W.heap.size RA rc ts.length rt LA lc l.length l _ HKX.out hgW HRX.out HRU.out HRL.out HSM.out.1 HSM.out.2.1 HSM.out.2.2.1 HSM.out.2.2.2 HCH.out HLU.out rfl (by omega) (ord_cells HORD.out)).mono ?_);rintro e y1 ⟨vv,v,rfl,hvo,hvi,hvl,hk5,hg5⟩;obtain ⟨VA,vc,rfl,_,_,_⟩:=hvo.slice vn_len;have hzy:=hg5.size;(replace HKX:=qh hk5);(replace HCX:=qh (HCX.out.grown hg5 (fun e=>by injection e with e;omega)));(replace HTX:=qh (HTX.out.grown HU.out hgl1 hg5));(replace HRX:=qh (HRX.out.grown HRU.out hgW hg5));(replace hxc:=Below.grown hxc hg5 hxc.size (fun q e=>by injection e with e;omega));(replace HCH:=qh (HCH.out.grownX nlr hg5 (fun a ha _ e=>by injection e with e;have:=HLU.out a ha;omega) |>.mono hzy));(try replace HV1:=qh (HV1.out.kept hg5 (fun q hq e=>by injection e with e;have:=HV1.out.row q hq;omega)));have HV1:=qh (hvo.mono (show u2.heap.size≤_ by omega));have KV1:=qh hvi.keyV;(replace hgz:=Nat.le_trans hgz hzy);clear hk5 hvi hvo hg5 hzy))
  | (go_at_call 11;clear TK2;go_must ((with_reducible refine (tape_Cells g b W.heap.size RA rc ts.length rt LA lc l.length l _ HKX.out hgW HRX.out HRU.out HRL.out HSM.out.1 HSM.out.2.1 HSM.out.2.2.1 HSM.out.2.2.2 HCH.out HLU.out rfl (by omega) (ord_cells HORD.out)).mono ?_);rintro e y1 ⟨vv,v2,rfl,hvo,hvi,hvl,hk5,hg5⟩;obtain ⟨WA,v2c,rfl,_,_,_⟩:=hvo.slice vn_len;have hzy:=hg5.size;(replace HKX:=qh hk5);(replace HCX:=qh (HCX.out.grown hg5 (fun e=>by injection e with e;omega)));(replace HTX:=qh (HTX.out.grown HU.out hgl1 hg5));(replace HRX:=qh (HRX.out.grown HRU.out hgW hg5));(replace hxc:=Below.grown hxc hg5 hxc.size (fun q e=>by injection e with e;omega));(replace HCH:=qh (HCH.out.grownX nlr hg5 (fun a ha _ e=>by injection e with e;have:=HLU.out a ha;omega) |>.mono hzy));(try replace HV1:=qh (HV1.out.kept hg5 (fun q hq e=>by injection e with e;have:=HV1.out.row q hq;omega)));have HV2:=qh (hvo.mono (show u2.heap.size≤_ by omega));have KV2:=qh hvi.keyV;(replace hgz:=Nat.le_trans hgz hzy);clear hk5 hvi hvo hg5 hzy))
  | (go_at_call 12;clear TS1;go_must ((with_reducible refine (tape_Sources g b W.heap.size RA rc ts.length rt _ HKX.out hgW HRX.out HRU.out HRL.out HSM.out.1 HSM.out.2.1 HSM.out.2.2.2).mono ?_);rintro e y1 ⟨sv,s,rfl,hvo,hvi,hsl,hk5,hg5⟩;obtain ⟨GA,gc,rfl,_,_,_⟩:=hvo.slice src_len;have hzy:=hg5.size;(replace HKX:=qh hk5);(replace HCX:=qh (HCX.out.grown hg5 (fun e=>by injection e with e;omega)));(replace HTX:=qh (HTX.out.grown HU.out hgl1 hg5));(replace HRX:=qh (HRX.out.grown HRU.out hgW hg5));(replace hxc:=Below.grown hxc hg5 hxc.size (fun q e=>by injection e with e;omega));(replace HV1:=qh (HV1.out.kept hg5 (fun q hq e=>by injection e with e;have:=HV1.out.row q hq;omega)));(replace HV2:=qh (HV2.out.kept hg5 (fun q hq e=>by injection e with e;have:=HV2.out.row q hq;omega)));(try replace HS1:=qh (HS1.out.kept hg5 (fun q hq e=>by injection e with e;have:=HS1.out.row q hq;omega)));have HS1:=qh (hvo.mono (show u2.heap.size≤_ by omega));have KS1:=qh hvi.keyK;(replace hgz:=Nat.le_trans hgz hzy);clear hk5 hvi hvo hg5 hzy))
  | (go_at_call 12;clear TS2;go_must ((with_reducible refine (tape_Sources g b W.heap.size RA rc ts.length rt _ HKX.out hgW HRX.out HRU.out HRL.out HSM.out.1 HSM.out.2.1 HSM.out.2.2.2).mono ?_);rintro e y1 ⟨sv,s2,rfl,hvo,hvi,hsl,hk5,hg5⟩;obtain ⟨FA,fc,rfl,_,_,_⟩:=hvo.slice src_len;have hzy:=hg5.size;(replace HKX:=qh hk5);(replace HCX:=qh (HCX.out.grown hg5 (fun e=>by injection e with e;omega)));(replace HTX:=qh (HTX.out.grown HU.out hgl1 hg5));(replace HRX:=qh (HRX.out.grown HRU.out hgW hg5));(replace hxc:=Below.grown hxc hg5 hxc.size (fun q e=>by injection e with e;omega));(replace HV1:=qh (HV1.out.kept hg5 (fun q hq e=>by injection e with e;have:=HV1.out.row q hq;omega)));(replace HV2:=qh (HV2.out.kept hg5 (fun q hq e=>by injection e with e;have:=HV2.out.row q hq;omega)));(try replace HS1:=qh (HS1.out.kept hg5 (fun q hq e=>by injection e with e;have:=HS1.out.row q hq;omega)));have HS2:=qh (hvo.mono (show u2.heap.size≤_ by omega));have KS2:=qh hvi.keyK;(replace hgz:=Nat.le_trans hgz hzy);clear hk5 hvi hvo hg5 hzy)))
 obtain ⟨iv,hiv,hv0,hv1,hv2⟩:=info_parts infoVn
 obtain ⟨is_,his,hs0,hs1,hs2⟩:=info_parts infoSrc
 have HVA:=qh (own_read vn_len HV1.out)
 have HWA:=qh (own_read vn_len HV2.out)
 have HGA:=qh (own_read src_len HS1.out)
 have HFA:=qh (own_read src_len HS2.out)
 have A1:True:=trivial
 have A2:True:=trivial
 have A3:True:=trivial
 have A4:True:=trivial
 clear HKX HV1 HV2 HS1 HS2 HCH HLU HOC2
 go_upto_region 7 with (first
  | (at_builtin;clear A1;go_must (refine wpList_append_list _ rfl (.tmp 40) (.tmp 41) 40 rfl 56 iv _ Vn.cells 3 24 Tryz.underlying40 hiv hv0 hv1 hv2 rfl (by omega) vn_len vn_one y1.heap.size (.slice (some ⟨y1.heap.size,0,none⟩) 0 0) [] rfl (Owns.empty (Blk.new' rfl) nlr) _ _ _ v rfl rfl (HVA.out.next (by exact belA)) (by simp;omega) (by simp [maxLen];omega) (by simp) ?_;intro va wa howa hga hata;have hba:Below y1.heap.size y1 wa:=Below.grown (by exact belA) hga (by simp) (own_row nlr);have HOA:=qh howa;have hza:=hba.size;clear howa hga hata))
  | (at_builtin;clear A2;go_must (refine wpList_append_list _ rfl (.tmp 42) (.tmp 43) 40 rfl 56 iv _ Vn.cells 3 24 Tryz.underlying40 hiv hv0 hv1 hv2 rfl (by omega) vn_len vn_one y1.heap.size va ([]++v) rfl HOA.out _ _ _ v2 rfl rfl (HWA.out.next hba) (by simp;omega) (by simp [maxLen];omega) hza ?_;intro vb wb howb hgb hatb;have hbb:Below y1.heap.size y1 wb:=Below.grown hba hgb hza HOA.out.row;have HOB:=qh howb;have hzb:=hbb.size;clear howb hgb hatb HOA))
  | (at_builtin;clear A3;go_must (refine wpList_append_list _ rfl (.tmp 45) (.tmp 46) 42 rfl 51 is_ _ Src.cells 2 16 Tryz.underlying42 his hs0 hs1 hs2 rfl (by omega) src_len src_one y1.heap.size (.slice (some ⟨wb.heap.size,0,none⟩) 0 0) [] rfl (Owns.empty (Blk.new' rfl) hzb) _ _ _ s rfl rfl (HGA.out.next (hbb.alloc hzb _)) (by simp;omega) (by simp [maxLen];omega) (by simp;omega) ?_;intro vc3 wc howc hgc hatc;have hbc:Below y1.heap.size y1 wc:=Below.grown (hbb.alloc hzb _) hgc (by simp;omega) (own_row hzb);have HOBc:=qh ((HOB.out.alloc _).kept hgc (fun q hq e=>by have:=HOB.out.lt q hq;simp [Value.ownBlock] at e;omega));have HOC:=qh howc;have hzc:=hbc.size;clear howc hgc hatc HOB))
  | (at_builtin;clear A4;go_must (refine wpList_append_list _ rfl (.tmp 47) (.tmp 48) 42 rfl 51 is_ _ Src.cells 2 16 Tryz.underlying42 his hs0 hs1 hs2 rfl (by omega) src_len src_one y1.heap.size vc3 ([]++s) rfl HOC.out _ _ _ s2 rfl rfl (HFA.out.next hbc) (by simp;omega) (by simp [maxLen];omega) hzc ?_;intro vd wd howd hgd hatd;have hbd:Below y1.heap.size y1 wd:=Below.grown hbc hgd hzc HOC.out.row;have HOBd:=qh (HOBc.out.kept hgd (HOBc.out.neType HOC.out (by decide)));have HOD:=qh howd;have hzd:=hbd.size;clear howd hgd hatd HOBc HOC)))
 obtain ⟨BA,bc,hBA,_,hbv,_⟩:=HOBd.out.slice vn_len
 obtain ⟨DA,dc,hDA,_,hbs,_⟩:=HOD.out.slice src_len
 simp only [List.nil_append] at hBA hDA hbv hbs
 subst hBA hDA
 have HRD:Hid (RdI wd w2.heap.size CA cc ts RA rt VA v WA v2 GA s FA s2 BA DA):=qh ⟨HCX.out.below hbd HCX.out.lt,HTX.out.next hbd,HRX.out.next hbd,HVA.out.next hbd,HWA.out.next hbd,HGA.out.next hbd,HFA.out.next hbd,hbv,hbs⟩
 have hxd:Below w.heap.size w wd:=below_nextN hxc hbd hxc.size
 clear hbv hbs HOBd HOD HCX HTX HRX HVA HWA HGA HFA hba hza hbb hzb hbc hzc hxc hiv hv0 hv1 hv2 his hs0 hs1 hs2
 have HRE:Hid (RdI wd.drew w2.heap.size CA cc ts RA rt VA v WA v2 GA s FA s2 BA DA):=qh (HRD.out.next brf.drew)
 have hxe:Below w.heap.size w wd.drew:=hxd.drew
 refine wp_region_held_drew (S:=fun u=>u.cell? ⟨w2.heap.size,0,none⟩=some (.slice CA ts.length cc)∧u.cell? ⟨w2.heap.size,1,none⟩=some (.slice none 0 0)∧u.cell? ⟨w2.heap.size,2,none⟩=some (.slice none 0 0)∧u.cell? ⟨w2.heap.size,3,none⟩=some (.slice none 0 0)∧u.cell? ⟨w2.heap.size,4,none⟩=some (.slice none 0 0)∧u.cell? ⟨w2.heap.size,5,none⟩=some (.slice none 0 0)∧u.cell? ⟨w2.heap.size,6,none⟩=some (.slice none 0 0)∧u.cell? ⟨w2.heap.size,7,none⟩=some (.slice none 0 0)) (by kernel_rfl) (Cat.blk HRD.out.cat) (fun hHeld => ?_)
 clear HRD hxd hbd hzd
 refine tkH 0 hHeld ?_
 refine tkH 1 hHeld ?_
 refine tkH 2 hHeld ?_
 refine tkH 3 hHeld ?_
 refine tkH 4 hHeld ?_
 refine tkH 6 hHeld ?_
 refine tkH 7 hHeld ?_
 refine wpAnyH_ready (rs := [5]) (by kernel_rfl) (by simp) ?_
 refine AllReadyH.cons rfl (fun K hK => ?_) AllReadyH.nil
 go_simp
 (go_at_call 13;go_must ((with_reducible refine (red_TablesZ CA cc ts.length ts (RA) (rc) ts.length rt VA vc (v).length v GA gc (s).length s _ HRE.out.tabs rfl HS.out HRE.out.x HRL.out HROK.out HRE.out.fv rfl (by omega) KV1.out HRE.out.fs rfl (by omega) KS1.out).mono ?_)))
 rintro e z1 ⟨⟨qa,ra,rfl,_,hln,hrn,hon,hpn⟩,hb⟩
 (try replace HB:=qh (HB.out.next hb))
 (replace HRE:=qh (HRE.out.next hb))
 (replace hxe:=below_nextN hxe hb hxe.size)
 have HA:=qh hrn
 have HLA:=qh hln
 have HOA:=qh hon
 have HPA:=qh hpn
 clear hrn hln hon hpn hb
 go_wp2_with fail
 refine hK.out _ _ (Cat.blk HRE.out.cat) (fun hHeld => ?_)
 clear hK K
 (try simp only [Act.put,gP6])
 refine wpAnyH_ready (rs := [8]) (by kernel_rfl) (by simp) ?_
 refine AllReadyH.cons rfl (fun K hK => ?_) AllReadyH.nil
 go_simp
 (go_at_call 13;go_must ((with_reducible refine (red_TablesZ CA cc ts.length ts (some ⟨qa,0,none⟩) (ts.length) ts.length ra WA v2c (v2).length v2 FA fc (s2).length s2 _ HRE.out.tabs rfl HS.out HA.out HLA.out HOA.out HRE.out.fw rfl (by omega) KV2.out HRE.out.fr rfl (by omega) KS2.out).mono ?_)))
 rintro e z1 ⟨⟨qb,rb,rfl,_,hln,hrn,hon,hpn⟩,hb⟩
 (try replace HB:=qh (HB.out.next hb))
 (replace HRE:=qh (HRE.out.next hb))
 (replace hxe:=below_nextN hxe hb hxe.size)
 have HB:=qh hrn
 have HLB:=qh hln
 have HOB:=qh hon
 have HPB:=qh hpn
 clear hrn hln hon hpn hb
 go_wp2_with fail
 refine hK.out _ _ (Cat.blk HRE.out.cat) (fun hHeld => ?_)
 clear hK K
 (try simp only [Act.put,gP6])
 refine tkH 9 hHeld ?_
 refine wpAnyH_done (by kernel_rfl) ?_ _
 have HPA2:Hid (rb.map pureT=redE (v++v2) (s++s2) (rt.map pureT)):=qh (by rw [HPB.out,HPA.out,redE_two])
 clear hHeld HA HLA HOA HPA HPB
 go_upto_region 8 with (fail)
 refine wp_region_held_drew (S:=fun u=>u.cell? ⟨w2.heap.size,0,none⟩=some (.slice CA ts.length cc)∧u.cell? ⟨w2.heap.size,1,none⟩=some (.slice none 0 0)∧u.cell? ⟨w2.heap.size,2,none⟩=some (.slice none 0 0)∧u.cell? ⟨w2.heap.size,3,none⟩=some (.slice none 0 0)∧u.cell? ⟨w2.heap.size,4,none⟩=some (.slice none 0 0)∧u.cell? ⟨w2.heap.size,5,none⟩=some (.slice none 0 0)∧u.cell? ⟨w2.heap.size,6,none⟩=some (.slice none 0 0)∧u.cell? ⟨w2.heap.size,7,none⟩=some (.slice none 0 0)) (by kernel_rfl) (Cat.blk HRE.out.cat) (fun hHeld => ?_)
 have hdr:=(Below.refl z1.heap.size z1).drew
 (replace HRE:=qh (HRE.out.next hdr))
 (replace HB:=qh (HB.out.next hdr))
 (replace hxe:=hxe.drew)
 clear hdr
 refine tkH 0 hHeld ?_
 refine tkH 1 hHeld ?_
 refine tkH 2 hHeld ?_
 refine tkH 3 hHeld ?_
 refine tkH 4 hHeld ?_
 refine tkH 6 hHeld ?_
 refine tkH 7 hHeld ?_
 refine wpAnyH_ready (rs := [5]) (by kernel_rfl) (by simp) ?_
 refine AllReadyH.cons rfl (fun K hK => ?_) AllReadyH.nil
 go_simp
 (go_at_call 13;go_must ((with_reducible refine (red_TablesZ CA cc ts.length ts (RA) (rc) ts.length rt WA v2c (v2).length v2 FA fc (s2).length s2 _ HRE.out.tabs rfl HS.out HRE.out.x HRL.out HROK.out HRE.out.fw rfl (by omega) KV2.out HRE.out.fr rfl (by omega) KS2.out).mono ?_)))
 rintro e z1 ⟨⟨qc,rcc,rfl,_,hln,hrn,hon,hpn⟩,hb⟩
 (try replace HB:=qh (HB.out.next hb))
 (replace HRE:=qh (HRE.out.next hb))
 (replace hxe:=below_nextN hxe hb hxe.size)
 have HC:=qh hrn
 have HLC:=qh hln
 have HOC:=qh hon
 have HPC:=qh hpn
 clear hrn hln hon hpn hb
 go_wp2_with fail
 refine hK.out _ _ (Cat.blk HRE.out.cat) (fun hHeld => ?_)
 clear hK K
 (try simp only [Act.put,gP6])
 refine wpAnyH_ready (rs := [8]) (by kernel_rfl) (by simp) ?_
 refine AllReadyH.cons rfl (fun K hK => ?_) AllReadyH.nil
 go_simp
 (go_at_call 13;go_must ((with_reducible refine (red_TablesZ CA cc ts.length ts (some ⟨qc,0,none⟩) (ts.length) ts.length rcc VA vc (v).length v GA gc (s).length s _ HRE.out.tabs rfl HS.out HC.out HLC.out HOC.out HRE.out.fv rfl (by omega) KV1.out HRE.out.fs rfl (by omega) KS1.out).mono ?_)))
 rintro e z1 ⟨⟨qd,rd,rfl,_,hln,hrn,hon,hpn⟩,hb⟩
 (try replace HB:=qh (HB.out.next hb))
 (replace HRE:=qh (HRE.out.next hb))
 (replace hxe:=below_nextN hxe hb hxe.size)
 have HD:=qh hrn
 have HLD:=qh hln
 have HOD:=qh hon
 have HPD:=qh hpn
 clear hrn hln hon hpn hb
 go_wp2_with fail
 refine hK.out _ _ (Cat.blk HRE.out.cat) (fun hHeld => ?_)
 clear hK K
 (try simp only [Act.put,gP6])
 refine tkH 9 hHeld ?_
 refine wpAnyH_done (by kernel_rfl) ?_ _
 have HPD2:Hid (rd.map pureT=redE (v++v2) (s++s2) (rt.map pureT)):=qh (by rw [HPD.out,HPC.out,redE_two];exact redE_mem (fun x=>by simp [Or.comm]) (fun x=>by simp [Or.comm]) _)
 clear hHeld HC HLC HOC HPC HPD
 obtain ⟨p0,p1,p2,p3,p4,p5,p6,p7⟩:=Cat.blk HRE.out.cat
 have KB:=qh (keys_app KV1.out KV2.out)
 have KD:=qh (keys_appS KS1.out KS2.out)
 have hvb:v.length+v2.length ≤ 1000000:=by omega
 have hsb2:s.length+s2.length ≤ 1000000:=by omega
 go_upto_region 10 with (go_at_call 13;go_must ((with_reducible refine (red_TablesZ CA cc ts.length ts RA rc ts.length rt BA bc (v.length+v2.length) (v++v2) DA dc (s.length+s2.length) (s++s2) _ HRE.out.tabs rfl HS.out HRE.out.x HRL.out HROK.out HRE.out.bv List.length_append hvb KB.out HRE.out.bs List.length_append hsb2 KD.out).mono ?_);rintro e z1 ⟨⟨qe,re,rfl,_,hle,hre,hoe,hpe⟩,hb⟩;(replace HB:=qh (HB.out.next hb));(replace HD:=qh (HD.out.next hb));(replace HRE:=qh (HRE.out.next hb));(replace hxe:=below_nextN hxe hb hxe.size);have HE:=qh hre;have HLE:=qh hle;have HOE:=qh hoe;have HPE:=qh hpe;clear hre hle hoe hpe hb))
 clear p0 p1 p2 p3 p4 p5 p6 p7
 obtain ⟨p0,p1,p2,p3,p4,p5,p6,p7⟩:=Cat.blk HRE.out.cat
 have M1:True:=trivial
 have M2:True:=trivial
 have M3:True:=trivial
 have HCLN:=qh (clean_red HPE.out)
 have HBE:Hid (rb.map pureT=re.map pureT):=qh (by rw [HPA2.out,HPE.out])
 have HDE:Hid (rd.map pureT=re.map pureT):=qh (by rw [HPD2.out,HPE.out])
 have HSB:=qh (rok_sane HOB.out)
 have HSD:=qh (rok_sane HOD.out)
 go_wp2_with (first
  | (go_at_call 17;clear M1;go_must ((with_reducible refine (ref07_Same (some ⟨qb,0,none⟩) (some ⟨qe,0,none⟩) ts.length ts.length ts.length ts.length rb re _ HB.out HE.out HLB.out HLE.out HSB.out HBE.out).mono ?_);rintro e z1 ⟨rfl,hb⟩;(replace HD:=qh (HD.out.next hb));(replace HE:=qh (HE.out.next hb));(replace HRE:=qh (HRE.out.next hb));(replace hxe:=below_nextN hxe hb hxe.size);clear HB hb p0 p1 p2 p3 p4 p5 p6 p7))
  | (go_at_call 17;clear M2;go_must ((with_reducible refine (ref07_Same (some ⟨qd,0,none⟩) (some ⟨qe,0,none⟩) ts.length ts.length ts.length ts.length rd re _ HD.out HE.out HLD.out HLE.out HSD.out HDE.out).mono ?_);rintro e z1 ⟨rfl,hb⟩;(replace HE:=qh (HE.out.next hb));(replace HRE:=qh (HRE.out.next hb));(replace hxe:=below_nextN hxe hb hxe.size);obtain ⟨p0,p1,p2,p3,p4,p5,p6,p7⟩:=Cat.blk HRE.out.cat;clear HD hb))
  | (go_at_call 18;go_must ((with_reducible refine (red_Clean CA cc ts.length ts (some ⟨qe,0,none⟩) ts.length ts.length re BA bc (v.length+v2.length) (v++v2) DA dc (s.length+s2.length) (s++s2) _ HRE.out.tabs rfl HS.out HE.out HLE.out HOE.out HCLN.out HRE.out.bv List.length_append hvb KB.out HRE.out.bs List.length_append hsb2 KD.out).mono ?_);rintro e z1 ⟨rfl,hb⟩;(replace HRE:=qh (HRE.out.next hb));(replace hxe:=below_nextN hxe hb hxe.size);clear hb HE p0 p1 p2 p3 p4 p5 p6 p7;obtain ⟨p0,p1,p2,p3,p4,p5,p6,p7⟩:=Cat.blk HRE.out.cat))
  | (go_at_call 13;go_must ((with_reducible refine (red_TablesZ CA cc ts.length ts RA rc ts.length rt none 0 0 [] none 0 0 [] _ HRE.out.tabs rfl HS.out HRE.out.x HRL.out HROK.out SliceIs.nil rfl (by decide) vn_key0 SliceIs.nil rfl (by decide) src_key0).mono ?_);rintro e z1 ⟨⟨qf,rf,rfl,_,hlf,hrf,hof,hpf⟩,hb⟩;(replace HRE:=qh (HRE.out.next hb));(replace hxe:=below_nextN hxe hb hxe.size);have HF:=qh hrf;have HLF:=qh hlf;have HSF:=qh (rok_sane hof);have HPF:Hid (rf.map pureT=rt.map pureT):=qh (by rw [hpf,redE_none]);clear hrf hlf hof hpf hb p0 p1 p2 p3 p4 p5 p6 p7))
  | (go_at_call 17;clear M3;go_must ((with_reducible refine (ref07_Same (some ⟨qf,0,none⟩) RA ts.length rc ts.length ts.length rf rt _ HF.out HRE.out.x HLF.out HRL.out HSF.out HPF.out).mono ?_);rintro e z1 ⟨rfl,hb⟩;(replace hxe:=below_nextN hxe hb hxe.size);clear hb))
  | (go_at_call 16;(with_reducible refine (law21_awake _).mono ?_);rintro e z1 ⟨rfl,hb⟩;(replace hxe:=below_nextN hxe hb hxe.size)))
 go_ret
 exact ⟨rfl,hxe⟩
end Go.Proofs.YtjhnpnhpmdkpcaaGreat
namespace Go.Proofs.YtjhnpnhpmdkpcaaGreat.redactTwice
open Go.ChangeShapes Go.WideShapes Go.ChangeAt Go.RowKit
theorem own:ownKnob Tryz.prog.godebug=none:=by kernel_rfl
theorem laidOut:laidOutB Tryz.prog=true:=by kernel_rfl
theorem bytesInt:Tryz.prog.bytesOf 3 = 8:=by kernel_rfl
theorem lifted (os:Os) (started:os.Started) (H:Type) (enc:TypeId × Value→H) :
 ReturnsInHanded {} Tryz.checked os 4 .any (Rows.redactTwiceSpec.pre6 enc Tryz.prog Tryz.f4 Rows.redactTwiceRow.domain false) (Rows.redactTwiceSpec.post enc Tryz.prog Tryz.f4 false true false false):=by
 refine returnsInHanded_of_change_sized (C:=Tryz.checked) own started (by kernel_rfl) Tryz.func4
  (ChangeSpec.witness6 (enc:=enc) (C:=Tryz.checked) false ⟨#[],#[.slice none 0 0],[]⟩ 8 (by kernel_rfl) (by kernel_rfl) (by kernel_rfl) (by kernel_rfl)) ?_
 intro W base args ds gs before hval0 hW hcnd hsz0 _
 have hval : ∀ (j:Nat) t v,Tryz.f4.params[j]? = some t→args[j]? = some v→Value.okWide Tryz.prog W .any base t v:=hval0
 have hsz:(DataW.weightsEach Tryz.prog (Tryz.f4.params.toList++Rows.redactTwiceSpec.plain.varTypes Tryz.prog) (ds++gs)).all (· ≤ reachBytes)=true:=hsz0
 have hW':=hW
 obtain ⟨p,q,hA0,hV,rfl,hfz,hnd⟩:=hW
 have hA:DataW.TrodAll enc Tryz.prog W 0 (fun _=>true) true Tryz.f4.params.toList args.toList ds p:=hA0
 rw [Tryz.params4] at hA hval hsz
 obtain ⟨v0,vs0,d0,ds0,p0,q0,hargs,rfl,rfl,h0,r0⟩:=trodAll_cons hA
 obtain ⟨rfl,rfl,rfl⟩:=trodAll_nil r0
 obtain rfl:args = #[v0]:=by cases args;simp_all
 obtain ⟨rfl,rfl⟩:=trodVars_none hV
 obtain ⟨a0,len0,cap0,rfl⟩:=okWide_slice Tryz.underlying22 (hval 0 22 v0 rfl rfl)
 have k0:=h0
 have lt0 : ∀ x∈p0,x.block<W.heap.size:=by obtain ⟨m,hm⟩:=k0;exact DataW.trod_lt m _ _ _ hm
 obtain ⟨t,htl,hts,ht8⟩ : ∃ t:List Int,t.length=len0∧SliceIs W W.heap.size intCells 1 a0 t∧t.length * 8 ≤ 140737488351232:=by
  obtain ⟨fuel,hf⟩:=h0
  rcases open_ints Tryz.underlying22 Tryz.underlying3 (by kernel_rfl) hf with ⟨hcs,_⟩|⟨x,l,c,zs,hcs,_,hl,hm,hz,hx,hcell,hwz⟩
  ·simp [Value.cells] at hcs
   obtain ⟨rfl,rfl,rfl⟩:=hcs
   exact ⟨[],rfl,SliceIs.nil,by simp⟩
  ·simp [Value.cells] at hcs
   obtain ⟨rfl,rfl,rfl⟩:=hcs
   simp only [Prod.mk.injEq] at hx
   obtain ⟨rfl,_⟩:=hx
   have hs:=sized_slice hsz (j := 0) (t := 22) (e := 3) rfl rfl Tryz.underlying22
   rw [bytesInt] at hs
   simp only [lits,List.length_map,List.length_take,List.length_drop,reachBytes] at hs
   have hzl:zs.length=cap0:=by simpa using hz
   refine ⟨zs.take len0,by simp;omega,fun h => ?_,by simp;omega⟩
   have h1 : 0<zs.length:=by simp at h;omega
   obtain ⟨xb,xo,xs⟩:=x
   have hc0:=hcell 0 h1
   have hsp:xs=none:=by
    cases xs with
    | none=>rfl
    | some y =>
      simp only [Addr.add,World.cell?,Option.isSome_some,if_true] at hc0
      split at hc0 <;> simp at hc0
   subst hsp
   have hlt:xb<W.heap.size:=by
    rcases Nat.lt_or_ge xb W.heap.size with h|h
    ·exact h
    ·simp [Addr.add,World.cell?,Array.getElem?_eq_none h] at hc0
   refine ⟨xb,xo,rfl,hlt,fun i hi j u hu => ?_⟩
   have hj:j = 0:=by have:=(List.getElem?_eq_some_iff.1 hu).1;simp [intCells] at this;omega
   subst hj
   have hil:i<zs.length:=by simp at hi;omega
   have:=hcell i hil
   simp only [intCells,List.getElem?_cons_zero,Option.some.injEq] at hu
   subst hu
   rw [List.getElem_take]
   rw [List.getD_eq_getElem?_getD,List.getElem?_eq_getElem hil] at this
   unfold Addr.add at this
   split at this
   ·rename_i h0;subst h0;simpa using this
   ·simpa using this
 clear hA0 hval0
 subst htl
 refine (twice_walk a0 cap0 t W hts ht8).mono fun e W' ⟨he,bel⟩ => ?_
 subst he
 exact ⟨_,rfl,_,_,_,[],_,[],hW',trodAll_mk1 (shut_bool Tryz.underlying4 _),(trodAll_cons_mk (Below.trod laidOut (by kernel_rfl) (of_decide_eq_true (by kernel_rfl)) k0 bel lt0) trodAll_mk0),rfl,bel.frame _,fun h=>by cases h⟩
theorem facts:joinedFacts Tryz.pinned.checked.prog 4 Tryz.f4 Rows.redactTwiceSpec Rows.redactTwiceRow=true:=by
 unfold joinedFacts
 repeat' (with_reducible refine (Bool.and_eq_true _ _).mpr ⟨?_,?_⟩)
 all_goals (as_aux_lemma=>kernel_rfl)
theorem over:Rows.redactTwiceRow.holds Tryz.pinned (OpenSpec.ofChange Rows.redactTwiceSpec) :=
 OpenClaim.holds_of_wide 4 Tryz.f4 rfl rfl rfl rfl rfl rfl rfl ⟨rfl,rfl,rfl,rfl,rfl⟩ rfl rfl rfl rfl rfl (by kernel_rfl) Tryz.func4 facts
  (of_decide_eq_true (by kernel_rfl)) (by unfold Func.isWrapper;first|(rw [if_pos (by decide +kernel)];kernel_rfl)|(rw [if_neg (by decide +kernel)];exact ⟨rfl,rfl⟩))
  (fun os started H enc _=>lifted os started H enc)
theorem proved:Rows.RedactTwiceSaid:=over
#print axioms proved
end Go.Proofs.YtjhnpnhpmdkpcaaGreat.redactTwice
