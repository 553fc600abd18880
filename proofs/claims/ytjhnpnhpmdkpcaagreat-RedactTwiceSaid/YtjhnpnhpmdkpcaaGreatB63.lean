/-
  Contracts and plain laws of this seat, part 63: HisP, EffV, HisG, HisV.
-/
import Derived.Test.YtjhnpnhpmdkpcaaGreatB59
import Derived.Test.YtjhnpnhpmdkpcaaGreatB7
import Derived.Test.YtjhnpnhpmdkpcaaGreatB57
import Derived.Test.YtjhnpnhpmdkpcaaGreatB2
set_option linter.unusedVariables false
set_option linter.unusedSimpArgs false
set_option maxRecDepth 100000
set_option maxHeartbeats 16000000
namespace Go.Proofs.YtjhnpnhpmdkpcaaGreat
open Go.RowKit Go
abbrev nulZ:Val:=⟨0,0,⟨#[]⟩⟩
def hRow (v:List Vn) (tb sq:Int) (row:List Val):List Val:=row.mapIdx fun j x=>if (decide (0<j)&&decide ((⟨tb,(j:Int),sq⟩:Vn)∈v))=true then nulZ else x
def hDel (x:Chg):Chg:=⟨3,x.seq,x.day,x.table,none,0,[],x.row.headD nulZ,0,nulZ⟩
def hKeep (v:List Vn) (x:Chg):Chg :=
 if x.kind = 1 then ⟨x.kind,x.seq,x.day,x.table,none,0,hRow v x.table x.seq x.row,x.key,x.column,x.val⟩
 else if x.kind = 2∧(⟨x.table,x.column,x.seq⟩:Vn)∈v then ⟨x.kind,x.seq,x.day,x.table,none,0,x.row,x.key,x.column,nulZ⟩
 else unC x
def hisV (v:List Vn) (s:List Src) (e:Eff):List Chg :=
 if e.2.1∈s then (if e.2.2 ≠ 0∧(⟨e.1.table,e.2.2⟩:Src) ∉ s then [hDel e.1] else []) else [hKeep v e.1]
theorem hRow_len (v:List Vn) (tb sq:Int) (row:List Val):(hRow v tb sq row).length=row.length:=by simp [hRow]
theorem hRow_at {v:List Vn} {tb sq:Int} {row:List Val} {j:Nat} (hj:j<row.length):(hRow v tb sq row)[j]'(by rw [hRow_len];exact hj)=if (decide (0<j)&&decide ((⟨tb,(j:Int),sq⟩:Vn)∈v))=true then nulZ else row[j]:=by
 simp [hRow]
open Go.RowKit Go
theorem red_keepE (pk:Nat) (w:World) (LA:Option Addr) (l:List Chg) (hl:ChgsIn w pk LA l) (h8 : ∀ x∈l,x.row.length ≤ 8):VisOK 50 #[.pointer (some ⟨pk,0,none⟩)] pk w l (fun e => [unC e.1]):=by
 unfold VisOK
 intro kd sq dy tb A0 cp row key cl vl s r u KA kc kl hmem hs hr hrk hb hk hkl
 show Calls Tryz.prog 50 #[.agg #[.int .i64 kd, .int .i64 sq, .int .i64 dy, .int .i64 tb, .slice A0 row.length cp, .int .i64 key.kind, .int .i64 key.num, .string key.text, .int .i64 cl, .int .i64 vl.kind, .int .i64 vl.num, .string vl.text], .agg #[.int .i64 tb, .int .i64 s], .int .i64 r, .pointer (some ⟨pk,0,none⟩)] u _
 obtain ⟨ic,hic,hzc1,hzc2,hzc3⟩:=info_parts infoChg
 have hrow:=(hl.2 _ hmem).below hb
 have hr8:=h8 _ hmem
 simp only at hrow hr8
 have HK:=qh hk
 have hpk:=hk.lt
 have HROW:=qh (hrow.mono (Nat.le_of_lt hpk))
 clear hl h8 hmem hs hr hrk hrow hk hb
 go_enter Tryz.func50,Tryz.ntmps50
 go_upto_region 1 with (fail)
 obtain ⟨X,hXe⟩ : ∃ X,u.heap.size=X:=⟨_,rfl⟩
 have HXE:=qh hXe
 rw [hXe]
 have hXp:pk<X:=by omega
 refine abs_world (P:=fun u=>Code.wp _ _ _ _ u) (R:=fun v=>Blk v X 79 #[.int .i64 kd, .int .i64 sq, .int .i64 dy, .int .i64 tb, .slice A0 row.length cp, .int .i64 key.kind, .int .i64 key.num, .string key.text, .int .i64 cl, .int .i64 vl.kind, .int .i64 vl.num, .string vl.text]∧Below u.heap.size u v) ⟨?_,?_⟩ ?_
 ·exact (Blk.new' hXe).alloc _
 ·exact belA
 clear hXe
 rintro W ⟨hX,hbW⟩
 have hXl:=hX.lt
 have HXW:=qh hX
 have HKW:=qh (HK.out.below hbW)
 have kv:=HKW.out.var.cell 0
 simp only [gE3] at kv
 have hbWz:=hbW.size
 clear hX
 refine wp_region_T (S:=fun v=>v.cell? ⟨pk,0,none⟩=some (.slice KA kl.length kc)∧Blk v X 79 #[.int .i64 kd, .int .i64 sq, .int .i64 dy, .int .i64 tb, .slice A0 row.length cp, .int .i64 key.kind, .int .i64 key.num, .string key.text, .int .i64 cl, .int .i64 vl.kind, .int .i64 vl.num, .string vl.text]) [5] krA ⟨kv,HXW.out⟩ (fun hHeld => ?_)
 refine tkT 0 hHeld ?_
 refine tkT 1 hHeld ?_ (hy:=by intro v hSv;(try dsimp only at hSv);obtain ⟨kv,hX⟩:=hSv;obtain ⟨⟨q0,q1,q2,q3⟩,q4,⟨q5,q6,q7⟩,q8,q9,q10,q11⟩:=Chg.blkE (x:=⟨kd,sq,dy,tb,A0,cp,row,key,cl,vl⟩) hX;simp only at q0 q1 q2 q3 q4 q5 q6 q7 q8 q9 q10 q11;go_simp;first|done|with_reducible rfl)
 refine r1T 2 (fun K hK => ?_)
 go_simp
 have hbd:Below W.heap.size W W.drew:=brf.drew
 (go_at_call 51;(with_reducible refine (red_cloned kd sq dy tb A0 cp row key cl vl _ ((HROW.out.next hbW).next hbd) omA).mono ?_))
 rintro e w5 ⟨⟨A',c',rfl,hown⟩,hb5⟩
 have hb5':Below W.heap.size W w5:=below_nextN hbd hb5 hbd.size
 have HK5:=qh (HKW.out.below hb5')
 have HX5:=qh (HXW.out.below hb5' hXl)
 have HOWN:Hid (Owns w5 (pk + 1) 53 Val.cells 3 (.slice A' row.length c') row):=qh (hown.mono (by have:=hbd.size;omega))
 have kv5:=HK5.out.var.cell 0
 simp only [gE3] at kv5
 have hz5:=hb5'.size
 have hXl5:X<w5.heap.size:=by omega
 clear hown hb5 kv
 go_wp2_with fail
 refine hK.out _ _ _ ⟨kv5,HX5.out⟩ (fun hHeld => ?_)
 clear hK K
 have hb5a:Below w5.heap.size w5 (w5.alloc (.cells (Chg.cells ⟨kd,sq,dy,tb,A',c',row,key,cl,vl⟩).toArray 79)):=by exact belA
 have kva:=(HK5.out.below hb5a).var.cell 0
 simp only [gE3] at kva
 refine r1T 3 (fun K hK => ?_)
 go_simp
 refine hK.out _ _ _ ⟨kva,HX5.out.alloc _⟩ (fun hHeld => ?_)
 clear hK K
 refine r1T 4 (fun K hK => ?_)
 (refine step_append_list _ rfl (.tmp 7) (.tmp 10) 36 rfl 79 ic _ Chg.cells 12 128 Tryz.underlying36 hic hzc1 hzc2 hzc3 rfl omA chg_len chg_one (pk + 1) (.slice KA kl.length kc) kl rfl (HK5.out.own.alloc _) _ _ _ [⟨kd,sq,dy,tb,A',c',row,key,cl,vl⟩] rfl rfl (Blk.one (enc:=Chg.cells) (x:=⟨kd,sq,dy,tb,A',c',row,key,cl,vl⟩) (Blk.new' rfl) spA) smA mxA smA ?_;intro v6 w6 hown6 hg6 hat6)
 obtain ⟨A6,c6,rfl,_,_⟩:=hown6.form
 have HAPP:Hid (KeptL (w6.setCell ⟨pk,0,none⟩ (.slice A6 (kl.length + 1) c6)) pk A6 c6 (kl ++ [⟨kd,sq,dy,tb,A',c',row,key,cl,vl⟩])):=qh (by
  have h:=(HK5.out.below hb5a).app hg6 hown6 (x:=⟨kd,sq,dy,tb,A',c',row,key,cl,vl⟩) (HOWN.out.alloc _) hr8
  rw [List.length_append] at h
  exact h)
 have hbu5:Below u.heap.size u w5:=below_nextN hbW hb5' hbWz
 have HV6:Hid (Blk w6 pk 36 #[.slice KA kl.length kc]):=qh ((HK5.out.below hb5a).var.grown hg6 fun e=>by have:=HK5.out.own.row pk e.symm;omega)
 have HX6:Hid (Blk w6 X 79 #[.int .i64 kd, .int .i64 sq, .int .i64 dy, .int .i64 tb, .slice A0 row.length cp, .int .i64 key.kind, .int .i64 key.num, .string key.text, .int .i64 cl, .int .i64 vl.kind, .int .i64 vl.num, .string vl.text]):=qh ((HX5.out.alloc _).grown hg6 fun e=>by
  have:=HK.out.own.lt X e.symm
  have:=HXE.out
  omega)
 have kv6:=HV6.out.cell 0
 have kf6:=fun j=>HV6.out.frozen j
 simp only [gE3] at kv6
 have hp6:=HV6.out.lt
 refine hK.out _ _ _ ⟨kv6,HX6.out⟩ (fun hHeld => ?_)
 clear hK K
 refine rzT 5 (fun K hK => ?_)
 go_simp
 refine hK.out _ _ _ ?_
 clear hK K
 refine wpT_done krA ?_ _
 clear hHeld
 first|go_end0|(go_wp2_with fail;first|go_end0|(refine bodyPost_ret (results_none rfl _ _ _) rfl ?_))
 refine ⟨rfl,⟨A6,c6,_,HAPP.out,?_,?_⟩,?_⟩
 ·simp [unC]
 ·simp
 ·exact HK.out.frame (below_nextN hbu5 hb5a hbu5.size) hg6 _
open Go.RowKit Go
theorem red_goneH (pg px b n:Nat) (v:List Vn) (kd sq dy tb:Int) (A0:Option Addr) (cp:Nat) (row:List Val) (key:Val) (cl:Int) (vl:Val) (c:Int) (w:World)
 (hg:Blk w pg 88 #[.map (some b)]) (hx:Blk w px 79 #[.int .i64 kd, .int .i64 sq, .int .i64 dy, .int .i64 tb, .slice A0 row.length cp, .int .i64 key.kind, .int .i64 key.num, .string key.text, .int .i64 cl, .int .i64 vl.kind, .int .i64 vl.num, .string vl.text]) (hM:MapH Tryz.prog 56 w b n (setF vnV v))
 (htb : -9223372036854775808≤tb∧tb ≤ 9223372036854775807) (hc : -9223372036854775808≤c∧c ≤ 9223372036854775807) (hsq : -9223372036854775808≤sq∧sq ≤ 9223372036854775807) {r:Bool} (hres:decide ((⟨tb,c,sq⟩:Vn)∈v)=r) :
 Calls Tryz.prog 60 #[.int .i64 c, .pointer (some ⟨pg,0,none⟩), .pointer (some ⟨px,0,none⟩)] w fun e w'=>e = .returned (.bool r)∧Below w.heap.size w w':=by
 obtain ⟨kl,hkl⟩:=vn_key htb hc hsq
 have hlk:(Instr.lookup 88 (.map (some b)) (.agg #[.int .i64 tb, .int .i64 c, .int .i64 sq]) false).run Tryz.prog w = .ok (.bool r) w:=by
  have h:=hM.look vn_keyed Tryz.underlying88 (zero_boolR w) hkl
  have h2:((setF vnV v) (.agg #[.int .i64 tb, .int .i64 c, .int .i64 sq])).getD (.bool false) = .bool (decide ((⟨tb,c,sq⟩:Vn)∈v)):=setF_get vnV_inj v ⟨tb,c,sq⟩
  rw [h2,hres] at h
  exact h
 have g0:=hg.cell 0
 have x1:=hx.cell 1
 have x3:=hx.cell 3
 simp only [gE3] at g0 x1 x3
 clear hg hx hM hkl hres
 go_enter Tryz.func60,Tryz.ntmps60
 go_wp2_with fail
 go_ret
 exact ⟨rfl,by exact belA⟩
open Go.RowKit Go
theorem blk_putH {w:World} {g:Nat} {t:TypeId} {a0 a1 a2 a3 a4 a5 a6 a7 a8 a9 a10 a11 x0 x1 x2 x3 x4 x5 x6 x7 x8 x9 x10 x11:Value} (h:Blk w g t #[a0,a1,a2,a3,a4,a5,a6,a7,a8,a9,a10,a11]) :
 Blk ((((((((((((w.setCell ⟨g,0,none⟩ x0).setCell ⟨g,1,none⟩ x1).setCell ⟨g,2,none⟩ x2).setCell ⟨g,3,none⟩ x3).setCell ⟨g,4,none⟩ x4).setCell ⟨g,5,none⟩ x5).setCell ⟨g,6,none⟩ x6).setCell ⟨g,7,none⟩ x7).setCell ⟨g,8,none⟩ x8).setCell ⟨g,9,none⟩ x9).setCell ⟨g,10,none⟩ x10).setCell ⟨g,11,none⟩ x11) g t #[x0,x1,x2,x3,x4,x5,x6,x7,x8,x9,x10,x11]:=by
 have h12:=(((((((((((h.set_ 0 x0).set_ 1 x1).set_ 2 x2).set_ 3 x3).set_ 4 x4).set_ 5 x5).set_ 6 x6).set_ 7 x7).set_ 8 x8).set_ 9 x9).set_ 10 x10).set_ 11 x11
 simpa using h12
theorem KeptL.vgrown {w w':World} {pk:Nat} {KA:Option Addr} {kc:Nat} {kl:List Chg} (h:KeptL w pk KA kc kl) (hg:w.grownBy w' (Value.slice KA kl.length kc).ownBlock):Blk w' pk 36 #[.slice KA kl.length kc] :=
 h.var.grown hg fun e=>by have:=h.own.row pk e.symm;omega
theorem KeptL.alloc {w:World} {pk:Nat} {KA:Option Addr} {kc:Nat} {kl:List Chg} (h:KeptL w pk KA kc kl) (o:Obj):KeptL (w.alloc o) pk KA kc kl:=h.below (brf.alloc nlr o)
theorem blk_putU {w:World} {g:Nat} {t:TypeId} {a0 a1 a2 a3 a4 a5 a6 a7 a8 a9 a10 a11 x9 x10 x11:Value} (h:Blk w g t #[a0,a1,a2,a3,a4,a5,a6,a7,a8,a9,a10,a11]) :
 Blk (((w.setCell ⟨g,9,none⟩ x9).setCell ⟨g,10,none⟩ x10).setCell ⟨g,11,none⟩ x11) g t #[a0,a1,a2,a3,a4,a5,a6,a7,a8,x9,x10,x11]:=by
 have h3:=((h.set_ 9 x9).set_ 10 x10).set_ 11 x11
 simpa using h3
theorem red_keepH (n0 pg pa pk bv bs:Nat) (v:List Vn) (s:List Src) (w:World) (LA:Option Addr) (l:List Chg) (hl:ChgsIn w pk LA l) (hx : ∀ x∈l,FolOk n0 x) (hn0:n0 ≤ 1000) (hcl : ∀ x∈l,-9223372036854775808≤x.column∧x.column ≤ 9223372036854775807)
 (hg:Blk w pg 88 #[.map (some bv)]) (ha:Blk w pa 91 #[.map (some bs)]) (hMv:MapH Tryz.prog 56 w bv v.length (setF vnV v)) (hMs:MapH Tryz.prog 51 w bs s.length (setF srcK s)) (hgp:pg<pk) (hap:pa<pk) (hbv:bv<pk) (hbs:bs<pk) :
 VisOK 59 #[.pointer (some ⟨pg,0,none⟩), .pointer (some ⟨pa,0,none⟩), .pointer (some ⟨pk,0,none⟩)] pk w l (hisV v s):=by
 unfold VisOK
 intro kd sq dy tb A0 cp row key cl vl r0 rp u KA kc kl hmem hs hr hrk hb hk hkl
 show Calls Tryz.prog 59 #[.agg #[.int .i64 kd, .int .i64 sq, .int .i64 dy, .int .i64 tb, .slice A0 row.length cp, .int .i64 key.kind, .int .i64 key.num, .string key.text, .int .i64 cl, .int .i64 vl.kind, .int .i64 vl.num, .string vl.text], .agg #[.int .i64 tb, .int .i64 r0], .int .i64 rp, .pointer (some ⟨pg,0,none⟩), .pointer (some ⟨pa,0,none⟩), .pointer (some ⟨pk,0,none⟩)] u _
 obtain ⟨ic,hic,hzc1,hzc2,hzc3⟩:=info_parts infoChg
 have hrow:=(hl.2 _ hmem).below hb
 have hc:=hcl _ hmem
 obtain ⟨⟨k,hkt,hkn0⟩,hrw,hsq,hky,hl8⟩:=hx _ hmem
 simp only at hrow hc hkt hrw hsq hl8
 have htb : 0≤tb∧tb ≤ 1000:=by omega
 have htb' : -9223372036854775808≤tb∧tb ≤ 9223372036854775807:=by omega
 have hsq' : -9223372036854775808≤sq∧sq ≤ 9223372036854775807:=by omega
 have HK:=qh hk
 have hpk:=hk.lt
 have HROW:=qh (hrow.mono (Nat.le_of_lt hpk))
 have HG:=qh (hg.below hb hgp)
 have HA:=qh (ha.below hb hap)
 have HMV:=qh (hMv.below hb hbv)
 have HMS:=qh (hMs.below hb hbs)
 obtain ⟨st,hst⟩ : ∃ st,decide ((⟨tb,r0⟩:Src)∈s)=st:=⟨_,rfl⟩
 have HST:=qh hst
 have HLK:Hid (∀ (z:Int) (st:Bool),(-9223372036854775808≤z∧z ≤ 9223372036854775807)→decide ((⟨tb,z⟩:Src)∈s)=st → ∀ U,Below u.heap.size u U→(Instr.lookup 91 (.map (some bs)) (.agg #[.int .i64 tb, .int .i64 z]) false).run Tryz.prog U = .ok (.bool st) U):=qh fun z st hz hst U hU=>by
  obtain ⟨kl',hkl'⟩:=srcK_key (a:=tb) (b:=z) htb' hz
  have h:=(HMS.out.below hU HMS.out.lt).look srcK_keyed Tryz.underlying91 (zero_boolR U) hkl'
  have h2:((setF srcK s) (.agg #[.int .i64 tb, .int .i64 z])).getD (.bool false) = .bool (decide ((⟨tb,z⟩:Src)∈s)):=setF_get srcK_inj s ⟨tb,z⟩
  rw [h2,hst] at h
  exact h
 clear hl hx hmem hrow hk hb hst hg ha hMv hMs hcl hky hkt hkn0
 go_enter Tryz.func59,Tryz.ntmps59
 go_upto_region 1 with (fail)
 obtain ⟨X,hXe⟩ : ∃ X,u.heap.size=X:=⟨_,rfl⟩
 have HXE:=qh hXe
 rw [hXe]
 have hXp:pk<X:=by omega
 refine abs_world (P:=fun u=>Code.wp _ _ _ _ u) (R:=fun v=>Blk v X 79 #[.int .i64 kd, .int .i64 sq, .int .i64 dy, .int .i64 tb, .slice A0 row.length cp, .int .i64 key.kind, .int .i64 key.num, .string key.text, .int .i64 cl, .int .i64 vl.kind, .int .i64 vl.num, .string vl.text]∧Blk v (X + 1) 51 #[.int .i64 tb, .int .i64 r0]∧Below u.heap.size u v) ⟨?_,?_,?_⟩ ?_
 ·exact (Blk.new' hXe).alloc _
 ·exact Blk.new' smA
 ·exact belA
 clear hXe
 rintro W ⟨hX,hR,hbW⟩
 have hXl:=hX.lt
 have hRl:=hR.lt
 have HXW:=qh hX
 have HRW:=qh hR
 obtain ⟨⟨q0,q1,q2,q3⟩,q4,⟨q5,q6,q7⟩,q8,q9,q10,q11⟩:=Chg.blkE (x:=⟨kd,sq,dy,tb,A0,cp,row,key,cl,vl⟩) hX
 simp only at q0 q1 q2 q3 q4 q5 q6 q7 q8 q9 q10 q11
 clear hX hR
 go_upto_region 2 with (go_at_call 51;(with_reducible refine (red_cloned kd sq dy tb A0 cp row key cl vl _ (HROW.out.next hbW) omA).mono ?_);rintro e w5 ⟨⟨A',c',rfl,hown⟩,hb5⟩;have HX5:=qh (HXW.out.below hb5 hXl);have hX5l:=HX5.out.lt;have hfz:=fun j=>HX5.out.frozen j;have HR5:=qh (HRW.out.below hb5 hRl);have HO5:=qh (hown.mono hbW.size);have hb5':=below_nextN hbW hb5 hbW.size;clear hown hb5 q0 q1 q2 q3 q4 q5 q6 q7 q8 q9 q10 q11;obtain ⟨⟨q0,q1,q2,q3⟩,q4,⟨q5,q6,q7⟩,q8,q9,q10,q11⟩:=Chg.blkE (x:=⟨kd,sq,dy,tb,A0,cp,row,key,cl,vl⟩) HX5.out;simp only at q0 q1 q2 q3 q4 q5 q6 q7 q8 q9 q10 q11)
 refine abs_world (P:=fun u=>Code.wp _ _ _ _ u) (R:=fun v=>Blk v X 79 #[.int .i64 kd, .int .i64 sq, .int .i64 dy, .int .i64 tb, .slice A' row.length c', .int .i64 key.kind, .int .i64 key.num, .string key.text, .int .i64 cl, .int .i64 vl.kind, .int .i64 vl.num, .string vl.text]∧Blk v (X + 1) 51 #[.int .i64 tb, .int .i64 r0]∧Owns v u.heap.size 53 Val.cells 3 (.slice A' row.length c') row∧Below u.heap.size u v) ⟨?_,?_,?_,?_⟩ ?_
 ·exact blk_putH HX5.out
 ·repeat (refine Blk.far ?_ (by show X + 1≠X;omega) _)
  exact HR5.out
 ·exact HO5.out.put12 HX5.out (by decide)
 ·repeat (refine Below.setCell ?_ (by show u.heap.size≤X;have:=HXE.out;omega) _)
  exact hb5'
 clear HX5 HR5 HO5 hX5l hfz hb5' q0 q1 q2 q3 q4 q5 q6 q7 q8 q9 q10 q11 HXW HRW hXl hRl hbW
 rintro Z ⟨hX,hR,hO,hbZ⟩
 have HXZ:=qh hX
 have HRZ:=qh hR
 have HOZ:=qh hO
 have hXl:=hX.lt
 have hRl:=hR.lt
 have hzZ:=hbZ.size
 obtain ⟨⟨q0,q1,q2,q3⟩,q4,⟨q5,q6,q7⟩,q8,q9,q10,q11⟩:=Chg.blkE (x:=⟨kd,sq,dy,tb,A',c',row,key,cl,vl⟩) hX
 simp only at q0 q1 q2 q3 q4 q5 q6 q7 q8 q9 q10 q11
 have s0:=hR.cell 0
 have s1:=hR.cell 1
 have a0:=(HA.out.below hbZ HA.out.lt).cell 0
 simp only [gE3] at s0 s1 a0
 clear hX hR hO
 have hlk:=HLK.out r0 st omA HST.out Z hbZ
 cases st with
 | true =>
   have HIN:Hid ((⟨tb,r0⟩:Src)∈s):=qh (by have h:=HST.out;simpa using h)
   go_upto_region 5 with (fail)
   obtain ⟨Y,hYe⟩ : ∃ Y,Z.heap.size=Y:=⟨_,rfl⟩
   have HYE:=qh hYe
   rw [hYe]
   have hYX:X<Y:=by omega
   refine abs_world (P:=fun u=>Code.wp _ _ _ _ u) (R:=fun v=>Blk v Y 51 #[.int .i64 tb, .int .i64 rp]∧Below Z.heap.size Z v) ⟨?_,?_⟩ ?_
   ·exact Blk.new' hYe
   ·exact belA
   clear hYe
   rintro V ⟨hY,hbV⟩
   have hbu:Below u.heap.size u V:=below_nextN hbZ hbV hzZ
   have y0:=hY.cell 0
   have y1:=hY.cell 1
   simp only [gE3] at y0 y1
   have hyl:=hY.lt
   have a0:=(HA.out.below hbu HA.out.lt).cell 0
   simp only [gE3] at a0
   clear q0 q1 q2 q3 q4 q5 q6 q7 q8 q9 q10 q11 s0 s1 hlk hY
   by_cases hrp:rp = 0
   ·subst hrp
    go_wp2_with fail
    first|go_end0|(refine bodyPost_ret (results_none rfl _ _ _) rfl ?_)
    exact ⟨rfl,⟨KA,kc,kl,HK.out.below hbu,by simp [hisV,HIN.out],Nat.le_succ _⟩,VisFr.of hbu HK.out.lt⟩
   have hra:decide (rp = 0)=false:=by simpa using hrp
   have hrb:(rp == 0)=false:=by simpa using hrp
   have hrc:decide (rp ≠ 0)=true:=by simpa using hrp
   have hrd:(rp != 0)=true:=by simpa using hrp
   obtain ⟨st2,hst2⟩ : ∃ st,decide ((⟨tb,rp⟩:Src)∈s)=st:=⟨_,rfl⟩
   have HST2:=qh hst2
   have hlk:=HLK.out rp st2 omA HST2.out V hbu
   clear hst2
   cases st2 with
   | true =>
     have HIN2:Hid ((⟨tb,rp⟩:Src)∈s):=qh (by have h:=HST2.out;simpa using h)
     go_wp2_with fail
     first|go_end0|(refine bodyPost_ret (results_none rfl _ _ _) rfl ?_)
     exact ⟨rfl,⟨KA,kc,kl,HK.out.below hbu,by simp [hisV,HIN.out,HIN2.out],Nat.le_succ _⟩,VisFr.of hbu HK.out.lt⟩
   | false =>
     have HIN2:Hid ((⟨tb,rp⟩:Src) ∉ s):=qh (by have h:=HST2.out;simpa using h)
     obtain rfl:kd = 1:=hrk hrp
     have h0r:=hrw rfl
     have h0r':decide (0<row.length)=true:=by simpa using h0r
     have h0ri:decide ((0:Int)<(row.length:Int))=true:=by simp;omega
     obtain ⟨q,hq⟩:=own_addr HOZ.out h0r
     subst hq
     obtain ⟨ky,hky⟩ : ∃ ky,row[0]=ky:=⟨_,rfl⟩
     have HKE:=qh hky
     have HKY:Hid (row.headD nulZ=ky):=qh (by rw [← hky];cases row with
      | nil=>simp at h0r
      | cons a t=>rfl)
     have HOV:=qh (HOZ.out.below hbV nlr)
     have HXV:=qh (HXZ.out.below hbV hXl)
     have HKV:=qh (HK.out.below hbu)
     clear hky
     have hqV:=HOV.out.lt q rfl
     have hqX:u.heap.size≤q:=HOV.out.row q rfl
     go_upto_region 6 with (fail)
     clear y0 y1 a0 hlk hra hrb hrc hrd
     refine wp_region_T (S:=fun v=>Blk v pk 36 #[.slice KA kl.length kc]∧Blk v X 79 #[.int .i64 1, .int .i64 sq, .int .i64 dy, .int .i64 tb, .slice (some ⟨q,0,none⟩) row.length c', .int .i64 key.kind, .int .i64 key.num, .string key.text, .int .i64 cl, .int .i64 vl.kind, .int .i64 vl.num, .string vl.text]∧Owns v u.heap.size 53 Val.cells 3 (.slice (some ⟨q,0,none⟩) row.length c') row) [14] krA ⟨HKV.out.var,HXV.out.drew,HOV.out.below brf.drew nlr⟩ (fun hHeld => ?_)
     refine tkT 0 hHeld ?_ (hy:=by intro v hSv;(try dsimp only at hSv);obtain ⟨hKv,hXv,hOv⟩:=hSv;have k0:=hKv.cell 0;have x1:=hXv.cell 1;have x2:=hXv.cell 2;have x3:=hXv.cell 3;have x4:=hXv.cell 4;have c0:=hOv.getE val_len rfl h0r (j := 0) rfl;have c1:=hOv.getE val_len rfl h0r (j := 1) rfl;have c2:=hOv.getE val_len rfl h0r (j := 2) rfl;rw [HKE.out] at c0 c1 c2;simp only [Nat.zero_mul,Nat.zero_add,Nat.add_zero,gE3] at k0 x1 x2 x3 x4 c0 c1 c2;go_simp;first|done|with_reducible rfl)
     refine tkT 1 hHeld ?_ (hy:=by intro v hSv;(try dsimp only at hSv);obtain ⟨hKv,hXv,hOv⟩:=hSv;have k0:=hKv.cell 0;have x1:=hXv.cell 1;have x2:=hXv.cell 2;have x3:=hXv.cell 3;have x4:=hXv.cell 4;have c0:=hOv.getE val_len rfl h0r (j := 0) rfl;have c1:=hOv.getE val_len rfl h0r (j := 1) rfl;have c2:=hOv.getE val_len rfl h0r (j := 2) rfl;rw [HKE.out] at c0 c1 c2;simp only [Nat.zero_mul,Nat.zero_add,Nat.add_zero,gE3] at k0 x1 x2 x3 x4 c0 c1 c2;go_simp;first|done|with_reducible rfl)
     refine tkT 2 hHeld ?_ (hy:=by intro v hSv;(try dsimp only at hSv);obtain ⟨hKv,hXv,hOv⟩:=hSv;have k0:=hKv.cell 0;have x1:=hXv.cell 1;have x2:=hXv.cell 2;have x3:=hXv.cell 3;have x4:=hXv.cell 4;have c0:=hOv.getE val_len rfl h0r (j := 0) rfl;have c1:=hOv.getE val_len rfl h0r (j := 1) rfl;have c2:=hOv.getE val_len rfl h0r (j := 2) rfl;rw [HKE.out] at c0 c1 c2;simp only [Nat.zero_mul,Nat.zero_add,Nat.add_zero,gE3] at k0 x1 x2 x3 x4 c0 c1 c2;go_simp;first|done|with_reducible rfl)
     refine tkT 3 hHeld ?_ (hy:=by intro v hSv;(try dsimp only at hSv);obtain ⟨hKv,hXv,hOv⟩:=hSv;have k0:=hKv.cell 0;have x1:=hXv.cell 1;have x2:=hXv.cell 2;have x3:=hXv.cell 3;have x4:=hXv.cell 4;have c0:=hOv.getE val_len rfl h0r (j := 0) rfl;have c1:=hOv.getE val_len rfl h0r (j := 1) rfl;have c2:=hOv.getE val_len rfl h0r (j := 2) rfl;rw [HKE.out] at c0 c1 c2;simp only [Nat.zero_mul,Nat.zero_add,Nat.add_zero,gE3] at k0 x1 x2 x3 x4 c0 c1 c2;go_simp;first|done|with_reducible rfl)
     refine tkT 4 hHeld ?_ (hy:=by intro v hSv;(try dsimp only at hSv);obtain ⟨hKv,hXv,hOv⟩:=hSv;have k0:=hKv.cell 0;have x1:=hXv.cell 1;have x2:=hXv.cell 2;have x3:=hXv.cell 3;have x4:=hXv.cell 4;have c0:=hOv.getE val_len rfl h0r (j := 0) rfl;have c1:=hOv.getE val_len rfl h0r (j := 1) rfl;have c2:=hOv.getE val_len rfl h0r (j := 2) rfl;rw [HKE.out] at c0 c1 c2;simp only [Nat.zero_mul,Nat.zero_add,Nat.add_zero,gE3] at k0 x1 x2 x3 x4 c0 c1 c2;go_simp;first|done|with_reducible rfl)
     refine tkT 5 hHeld ?_ (hy:=by intro v hSv;(try dsimp only at hSv);obtain ⟨hKv,hXv,hOv⟩:=hSv;have k0:=hKv.cell 0;have x1:=hXv.cell 1;have x2:=hXv.cell 2;have x3:=hXv.cell 3;have x4:=hXv.cell 4;have c0:=hOv.getE val_len rfl h0r (j := 0) rfl;have c1:=hOv.getE val_len rfl h0r (j := 1) rfl;have c2:=hOv.getE val_len rfl h0r (j := 2) rfl;rw [HKE.out] at c0 c1 c2;simp only [Nat.zero_mul,Nat.zero_add,Nat.add_zero,gE3] at k0 x1 x2 x3 x4 c0 c1 c2;go_simp;first|done|with_reducible rfl)
     refine tkT 6 hHeld ?_ (hy:=by intro v hSv;(try dsimp only at hSv);obtain ⟨hKv,hXv,hOv⟩:=hSv;have k0:=hKv.cell 0;have x1:=hXv.cell 1;have x2:=hXv.cell 2;have x3:=hXv.cell 3;have x4:=hXv.cell 4;have c0:=hOv.getE val_len rfl h0r (j := 0) rfl;have c1:=hOv.getE val_len rfl h0r (j := 1) rfl;have c2:=hOv.getE val_len rfl h0r (j := 2) rfl;rw [HKE.out] at c0 c1 c2;simp only [Nat.zero_mul,Nat.zero_add,Nat.add_zero,gE3] at k0 x1 x2 x3 x4 c0 c1 c2;go_simp;first|done|with_reducible rfl)
     refine tkT 7 hHeld ?_ (hy:=by intro v hSv;(try dsimp only at hSv);obtain ⟨hKv,hXv,hOv⟩:=hSv;have k0:=hKv.cell 0;have x1:=hXv.cell 1;have x2:=hXv.cell 2;have x3:=hXv.cell 3;have x4:=hXv.cell 4;have c0:=hOv.getE val_len rfl h0r (j := 0) rfl;have c1:=hOv.getE val_len rfl h0r (j := 1) rfl;have c2:=hOv.getE val_len rfl h0r (j := 2) rfl;rw [HKE.out] at c0 c1 c2;simp only [Nat.zero_mul,Nat.zero_add,Nat.add_zero,gE3] at k0 x1 x2 x3 x4 c0 c1 c2;go_simp;first|done|with_reducible rfl)
     refine tkT 8 hHeld ?_ (hy:=by intro v hSv;(try dsimp only at hSv);obtain ⟨hKv,hXv,hOv⟩:=hSv;have k0:=hKv.cell 0;have x1:=hXv.cell 1;have x2:=hXv.cell 2;have x3:=hXv.cell 3;have x4:=hXv.cell 4;have c0:=hOv.getE val_len rfl h0r (j := 0) rfl;have c1:=hOv.getE val_len rfl h0r (j := 1) rfl;have c2:=hOv.getE val_len rfl h0r (j := 2) rfl;rw [HKE.out] at c0 c1 c2;simp only [Nat.zero_mul,Nat.zero_add,Nat.add_zero,gE3] at k0 x1 x2 x3 x4 c0 c1 c2;go_simp;first|done|with_reducible rfl)
     refine tkT 9 hHeld ?_ (hy:=by intro v hSv;(try dsimp only at hSv);obtain ⟨hKv,hXv,hOv⟩:=hSv;have k0:=hKv.cell 0;have x1:=hXv.cell 1;have x2:=hXv.cell 2;have x3:=hXv.cell 3;have x4:=hXv.cell 4;have c0:=hOv.getE val_len rfl h0r (j := 0) rfl;have c1:=hOv.getE val_len rfl h0r (j := 1) rfl;have c2:=hOv.getE val_len rfl h0r (j := 2) rfl;rw [HKE.out] at c0 c1 c2;simp only [Nat.zero_mul,Nat.zero_add,Nat.add_zero,gE3] at k0 x1 x2 x3 x4 c0 c1 c2;go_simp;first|done|with_reducible rfl)
     refine tkT 10 hHeld ?_ (hy:=by intro v hSv;(try dsimp only at hSv);obtain ⟨hKv,hXv,hOv⟩:=hSv;have k0:=hKv.cell 0;have x1:=hXv.cell 1;have x2:=hXv.cell 2;have x3:=hXv.cell 3;have x4:=hXv.cell 4;have c0:=hOv.getE val_len rfl h0r (j := 0) rfl;have c1:=hOv.getE val_len rfl h0r (j := 1) rfl;have c2:=hOv.getE val_len rfl h0r (j := 2) rfl;rw [HKE.out] at c0 c1 c2;simp only [Nat.zero_mul,Nat.zero_add,Nat.add_zero,gE3] at k0 x1 x2 x3 x4 c0 c1 c2;go_simp;first|done|with_reducible rfl)
     refine tkT 11 hHeld ?_ (hy:=by intro v hSv;(try dsimp only at hSv);obtain ⟨hKv,hXv,hOv⟩:=hSv;have k0:=hKv.cell 0;have x1:=hXv.cell 1;have x2:=hXv.cell 2;have x3:=hXv.cell 3;have x4:=hXv.cell 4;have c0:=hOv.getE val_len rfl h0r (j := 0) rfl;have c1:=hOv.getE val_len rfl h0r (j := 1) rfl;have c2:=hOv.getE val_len rfl h0r (j := 2) rfl;rw [HKE.out] at c0 c1 c2;simp only [Nat.zero_mul,Nat.zero_add,Nat.add_zero,gE3] at k0 x1 x2 x3 x4 c0 c1 c2;go_simp;first|done|with_reducible rfl)
     have HKD:=qh (HKV.out.below brf.drew)
     have hbd:Below u.heap.size u V.drew:=hbu.drew
     have HXD:=qh (HXV.out.drew)
     have HOD:Hid (Owns V.drew u.heap.size 53 Val.cells 3 (.slice (some ⟨q,0,none⟩) row.length c') row):=qh (HOV.out.below brf.drew nlr)
     clear HKV HXV HOV hbu hbV
     have hDz:=hbd.size
     generalize V.drew=D at *
     refine r1T 12 (fun K hK => ?_)
     go_simp
     have hba:Below D.heap.size D (D.alloc (.cells (Chg.cells ⟨3,sq,dy,tb,none,0,[],ky,0,nulZ⟩).toArray 79)):=by exact belA
     have HKA:=qh (HKD.out.below hba)
     refine hK.out _ _ _ ⟨HKA.out.var,HXD.out.alloc _,HOD.out.alloc _⟩ (fun hHeld => ?_)
     clear hK K
     refine r1T 13 (fun K hK => ?_)
     (refine step_append_list _ rfl (.tmp 31) (.tmp 43) 36 rfl 79 ic _ Chg.cells 12 128 Tryz.underlying36 hic hzc1 hzc2 hzc3 rfl omA chg_len chg_one (pk + 1) (.slice KA kl.length kc) kl rfl (HKD.out.own.alloc _) _ _ _ [⟨3,sq,dy,tb,none,0,[],ky,0,nulZ⟩] rfl rfl (Blk.one (enc:=Chg.cells) (x:=⟨3,sq,dy,tb,none,0,[],ky,0,nulZ⟩) (Blk.new' rfl) spA) smA mxA smA ?_;intro v6 w6 hown6 hg6 hat6)
     obtain ⟨A6,c6,rfl,_,_⟩:=hown6.form
     have HAPP:Hid (KeptL (w6.setCell ⟨pk,0,none⟩ (.slice A6 (kl.length + 1) c6)) pk A6 c6 (kl ++ [⟨3,sq,dy,tb,none,0,[],ky,0,nulZ⟩])):=qh (by
      have h:=HKA.out.app hg6 hown6 (x:=⟨3,sq,dy,tb,none,0,[],ky,0,nulZ⟩) Owns.nil (Nat.zero_le _)
      rw [List.length_append] at h
      exact h)
     have HV6:=qh (HKA.out.vgrown hg6)
     have HX6:Hid (Blk w6 X 79 #[.int .i64 1, .int .i64 sq, .int .i64 dy, .int .i64 tb, .slice (some ⟨q,0,none⟩) row.length c', .int .i64 key.kind, .int .i64 key.num, .string key.text, .int .i64 cl, .int .i64 vl.kind, .int .i64 vl.num, .string vl.text]):=qh ((HXD.out.alloc _).grown hg6 fun e=>by
      have:=HK.out.own.lt X e.symm
      have:=HXE.out
      omega)
     have HO6:=qh ((HOD.out.alloc (.cells (Chg.cells ⟨3,sq,dy,tb,none,0,[],ky,0,nulZ⟩).toArray 79)).kept hg6 (HOD.out.neType HKD.out.own (by decide)))
     have kv6:=HV6.out.cell 0
     have kf6:=fun j=>HV6.out.frozen j
     simp only [gE3] at kv6
     have hp6:=HV6.out.lt
     refine hK.out _ _ _ ⟨HV6.out,HX6.out,HO6.out⟩ (fun hHeld => ?_)
     clear hK K
     refine rzT 14 (fun K hK => ?_)
     go_simp
     refine hK.out _ _ _ ?_
     clear hK K
     refine wpT_done krA ?_ _
     clear hHeld
     first|go_end0|(go_wp2_with fail;first|go_end0|(refine bodyPost_ret (results_none rfl _ _ _) rfl ?_))
     refine ⟨rfl,⟨A6,c6,_,HAPP.out,?_,?_⟩,?_⟩
     ·simp [unC,hisV,hDel,HIN.out,HIN2.out,hrp];rw [← HKY.out];simp
     ·simp
     ·exact HK.out.frame (below_nextN hbd hba hbd.size) hg6 _
 | false =>
   have HNI:Hid ((⟨tb,r0⟩:Src) ∉ s):=qh (by have h:=HST.out;simpa using h)
   by_cases hk1:kd = 1
   ·subst hk1
    have h0r:=hrw rfl
    obtain ⟨q,hq⟩:=own_addr HOZ.out h0r
    subst hq
    have HLN:Hid ((hRow v tb sq row).length=row.length):=qh (hRow_len v tb sq row)
    have hqX:u.heap.size≤q:=HOZ.out.row q rfl
    go_upto_region 9 with (fail)
    go_loopw [52] (fun vi wr => ∃ j:Nat,j≤row.length∧vi = .int .i64 j∧Blk wr X 79 #[.int .i64 1, .int .i64 sq, .int .i64 dy, .int .i64 tb, .slice (some ⟨q,0,none⟩) row.length c', .int .i64 key.kind, .int .i64 key.num, .string key.text, .int .i64 cl, .int .i64 vl.kind, .int .i64 vl.num, .string vl.text]∧Owns wr u.heap.size 53 Val.cells 3 (.slice (some ⟨q,0,none⟩) row.length c') (mixL (hRow v tb sq row) row j)∧Below u.heap.size u wr) (fun vi _=>row.length - (intOf vi).toNat)
    case atStart=>exact ⟨0,Nat.zero_le _,rfl,HXZ.out,by rw [mixL_zero];exact HOZ.out,hbZ⟩
    case round =>
     obtain ⟨j,hj,rfl,hxr,hor,hbr⟩:=hrel
     have HXR:=qh hxr
     have HOR:=qh hor
     have hzr:=hbr.size
     have hXr:=hxr.lt
     have x4:=hxr.cell 4
     simp only [gE3] at x4
     clear hxr hor
     by_cases hlt:j<row.length
     ·have hlt':decide (j<row.length)=true:=by simpa using hlt
      have hlti:decide ((j:Int)<(row.length:Int))=true:=by simp;omega
      have HLM:Hid (row.length=(mixL (hRow v tb sq row) row j).length):=qh (mixL_len HLN.out hj).symm
      have hRj:j<(hRow v tb sq row).length:=by rw [HLN.out];exact hlt
      by_cases hj0:j = 0
      ·subst hj0
       have HMX:Hid (mixL (hRow v tb sq row) row 0=mixL (hRow v tb sq row) row (0 + 1)):=qh (mixL_same HLN.out hlt hRj (by rw [hRow_at hlt];rfl))
       go_wp2_with fail
       go_roundw
       case rel=>exact ⟨0 + 1,by omega,by go_num,HXR.out,by rw [← HMX.out];exact HOR.out,hbr⟩
       case measure=>exact meA
      obtain ⟨r,hr⟩ : ∃ r,decide ((⟨tb,(j:Int),sq⟩:Vn)∈v)=r:=⟨_,rfl⟩
      have HRR:=qh hr
      have HAT:Hid ((hRow v tb sq row)[j]=if r=true then nulZ else row[j]):=qh (by
       have h1:decide (0<j)=true:=by simp;omega
       rw [hRow_at hlt,hr,h1,Bool.true_and])
      have hja:decide ((j:Int) = 0)=false:=by simp;omega
      have hjb:((j:Int) == 0)=false:=by simp;omega
      have hjc:((j:Int) != 0)=true:=by simp;omega
      clear hr
      cases r with
      | false =>
        have HMX:Hid (mixL (hRow v tb sq row) row j=mixL (hRow v tb sq row) row (j + 1)):=qh (mixL_same HLN.out hlt hRj (by rw [HAT.out];rfl))
        go_wp2_with (go_at_call 60;(with_reducible refine (red_goneH pg X bv v.length v 1 sq dy tb (some ⟨q,0,none⟩) c' row key cl vl j _ (HG.out.below hbr HG.out.lt) HXR.out (HMV.out.below hbr HMV.out.lt) htb' omA hsq' HRR.out).mono ?_);rintro e w2 ⟨rfl,hb2⟩)
        go_roundw
        case rel=>exact ⟨j + 1,by omega,by go_num,HXR.out.below hb2 hXr,by rw [← HMX.out];exact HOR.out.below hb2 nlr,below_nextN hbr hb2 hzr⟩
        case measure=>exact meA
      | true =>
        have hjm:j<(mixL (hRow v tb sq row) row j).length:=by rw [← HLM.out];exact hlt
        have HMX:Hid ((mixL (hRow v tb sq row) row j).set j nulZ=mixL (hRow v tb sq row) row (j + 1)):=qh (by
         have h:=mixL_set HLN.out hlt hRj
         rw [HAT.out] at h
         exact h)
        go_upto_region 12 with (go_at_call 60;(with_reducible refine (red_goneH pg X bv v.length v 1 sq dy tb (some ⟨q,0,none⟩) c' row key cl vl j _ (HG.out.below hbr HG.out.lt) HXR.out (HMV.out.below hbr HMV.out.lt) htb' omA hsq' HRR.out).mono ?_);rintro e w2 ⟨rfl,hb2⟩)
        have HO2:=qh (HOR.out.below hb2 nlr)
        have HX2:=qh (HXR.out.below hb2 hXr)
        have hx2:=below_nextN hbr hb2 hzr
        have hXq:X≠q:=fun e=>HO2.out.neBlk HX2.out (by decide) q rfl e.symm
        have c0:=HO2.out.getE val_len HLM.out hjm (j := 0) rfl
        have c1:=HO2.out.getE val_len HLM.out hjm (j := 1) rfl
        have c2:=HO2.out.getE val_len HLM.out hjm (j := 2) rfl
        have hfq:=fun j=>HO2.out.frzE HLM.out j
        have x4:=HX2.out.cell 4
        simp only [gE3,Nat.add_zero] at x4 c0
        go_wp2_with fail
        go_roundw
        case rel=>exact ⟨j + 1,by omega,by go_num,(((HX2.out.far hXq _).far hXq _).far hXq _),by rw [← HMX.out];with_reducible exact HO2.out.putVal HLM.out hjm nulZ,by exact belA⟩
        case measure=>exact meA
     ·have hlt':decide (j<row.length)=false:=by simpa using hlt
      have hlti:decide ((j:Int)<(row.length:Int))=false:=by simp;omega
      obtain rfl:j=row.length:=by omega
      have HFIN:Hid (Owns wr u.heap.size 53 Val.cells 3 (.slice (some ⟨q,0,none⟩) (hRow v tb sq row).length c') (hRow v tb sq row)):=qh (by have h:=HOR.out;rwa [mixL_all HLN.out,← HLN.out] at h)
      clear x4
      have HK5:=qh (HK.out.below (hbr))
      have kv5:=HK5.out.var.cell 0
      clear q0 q1 q2 q3 q4 q5 q6 q7 q8 q9 q10 q11
      obtain ⟨⟨q0,q1,q2,q3⟩,q4,⟨q5,q6,q7⟩,q8,q9,q10,q11⟩:=Chg.blkE (x:=⟨1,sq,dy,tb,some ⟨q,0,none⟩,c',row,key,cl,vl⟩) (HXR.out)
      simp only [gE3] at kv5 q0 q1 q2 q3 q4 q5 q6 q7 q8 q9 q10 q11
      have HOX:=qh ((HFIN.out).mono hpk)
      have HBX:=qh (hbr)
      have hzX:=(hbr).size
      go_wp2_with (at_builtin;go_must (refine wpList_append_list _ rfl (.tmp 80) (.tmp 82) 36 rfl 79 ic _ Chg.cells 12 128 Tryz.underlying36 hic hzc1 hzc2 hzc3 rfl omA chg_len chg_one (pk + 1) (.slice KA kl.length kc) kl rfl (HK5.out.own.alloc _) _ _ _ [⟨1,sq,dy,tb,some ⟨q,0,none⟩,c',hRow v tb sq row,key,cl,vl⟩] rfl rfl (Blk.one (enc:=Chg.cells) (x:=⟨1,sq,dy,tb,some ⟨q,0,none⟩,c',hRow v tb sq row,key,cl,vl⟩) ((Blk.new' rfl).eq (by simp only [Chg.cells,HLN.out])) spA) smA mxA smA ?_);intro v6 w6 hown6 hg6 hat6;obtain ⟨A6,c6,hv6,_,_⟩:=hown6.form;subst hv6;have HAPP:Hid (KeptL (w6.setCell ⟨pk,0,none⟩ (.slice A6 (kl.length + 1) c6)) pk A6 c6 (kl ++ [⟨1,sq,dy,tb,some ⟨q,0,none⟩,c',hRow v tb sq row,key,cl,vl⟩])):=qh (by have h:=(HK5.out.alloc _).app hg6 hown6 (x:=⟨1,sq,dy,tb,some ⟨q,0,none⟩,c',hRow v tb sq row,key,cl,vl⟩) (HOX.out.alloc _) (by simp only [HLN.out];omega);rw [List.length_append] at h;exact h);have HV6:=qh ((HK5.out.alloc _).vgrown hg6);have kv6:=HV6.out.cell 0;have kf6:=fun j=>HV6.out.frozen j;have hp6:=HV6.out.lt;have HG6:=qh hg6;simp only [gE3] at kv6;clear hown6 hg6 hat6)
      first|go_end0|(refine bodyPost_ret (results_none rfl _ _ _) rfl ?_)
      refine ⟨rfl,⟨A6,c6,_,HAPP.out,?_,?_⟩,?_⟩
      ·simp [unC,hisV,hKeep,HNI.out]
      ·simp
      ·exact HK.out.frame (HBX.out.alloc hzX _) HG6.out _
   ·have hk1':(kd == 1)=false:=by simpa using hk1
    have hk1d:decide (kd = 1)=false:=by simpa using hk1
    by_cases hk2:kd = 2
    ·subst hk2
     obtain ⟨r,hr⟩ : ∃ r,decide ((⟨tb,cl,sq⟩:Vn)∈v)=r:=⟨_,rfl⟩
     have HRR:=qh hr
     clear hr
     cases r with
     | false =>
       have HNV:Hid ((⟨tb,cl,sq⟩:Vn) ∉ v):=qh (by have h:=HRR.out;simpa using h)
       go_upto_region 16 with (go_at_call 60;(with_reducible refine (red_goneH pg X bv v.length v 2 sq dy tb A' c' row key cl vl cl _ (HG.out.below hbZ HG.out.lt) HXZ.out (HMV.out.below hbZ HMV.out.lt) htb' hc hsq' HRR.out).mono ?_);rintro e w2 ⟨rfl,hb2⟩)
       have hb2':=below_nextN hbZ hb2 hzZ
       have HK5:=qh (HK.out.below (hb2'))
       have kv5:=HK5.out.var.cell 0
       clear q0 q1 q2 q3 q4 q5 q6 q7 q8 q9 q10 q11
       obtain ⟨⟨q0,q1,q2,q3⟩,q4,⟨q5,q6,q7⟩,q8,q9,q10,q11⟩:=Chg.blkE (x:=⟨2,sq,dy,tb,A',c',row,key,cl,vl⟩) (HXZ.out.below hb2 hXl)
       simp only [gE3] at kv5 q0 q1 q2 q3 q4 q5 q6 q7 q8 q9 q10 q11
       have HOX:=qh ((HOZ.out.below hb2 nlr).mono hpk)
       have HBX:=qh (hb2')
       have hzX:=(hb2').size
       go_wp2_with (at_builtin;go_must (refine wpList_append_list _ rfl (.tmp 80) (.tmp 82) 36 rfl 79 ic _ Chg.cells 12 128 Tryz.underlying36 hic hzc1 hzc2 hzc3 rfl omA chg_len chg_one (pk + 1) (.slice KA kl.length kc) kl rfl (HK5.out.own.alloc _) _ _ _ [⟨2,sq,dy,tb,A',c',row,key,cl,vl⟩] rfl rfl (Blk.one (enc:=Chg.cells) (x:=⟨2,sq,dy,tb,A',c',row,key,cl,vl⟩) ((Blk.new' rfl).eq (by simp only [Chg.cells,List.length_nil])) spA) smA mxA smA ?_);intro v6 w6 hown6 hg6 hat6;obtain ⟨A6,c6,hv6,_,_⟩:=hown6.form;subst hv6;have HAPP:Hid (KeptL (w6.setCell ⟨pk,0,none⟩ (.slice A6 (kl.length + 1) c6)) pk A6 c6 (kl ++ [⟨2,sq,dy,tb,A',c',row,key,cl,vl⟩])):=qh (by have h:=(HK5.out.alloc _).app hg6 hown6 (x:=⟨2,sq,dy,tb,A',c',row,key,cl,vl⟩) (HOX.out.alloc _) (by simp only [List.length_nil];omega);rw [List.length_append] at h;exact h);have HV6:=qh ((HK5.out.alloc _).vgrown hg6);have kv6:=HV6.out.cell 0;have kf6:=fun j=>HV6.out.frozen j;have hp6:=HV6.out.lt;have HG6:=qh hg6;simp only [gE3] at kv6;clear hown6 hg6 hat6)
       first|go_end0|(refine bodyPost_ret (results_none rfl _ _ _) rfl ?_)
       refine ⟨rfl,⟨A6,c6,_,HAPP.out,?_,?_⟩,?_⟩
       ·simp [unC,hisV,hKeep,HNI.out,HNV.out]
       ·simp
       ·exact HK.out.frame (HBX.out.alloc hzX _) HG6.out _
     | true =>
       have HNV:Hid ((⟨tb,cl,sq⟩:Vn)∈v):=qh (by have h:=HRR.out;simpa using h)
       go_upto_region 15 with (go_at_call 60;(with_reducible refine (red_goneH pg X bv v.length v 2 sq dy tb A' c' row key cl vl cl _ (HG.out.below hbZ HG.out.lt) HXZ.out (HMV.out.below hbZ HMV.out.lt) htb' hc hsq' HRR.out).mono ?_);rintro e w2 ⟨rfl,hb2⟩)
       have hb2':=below_nextN hbZ hb2 hzZ
       have HX2:=qh (HXZ.out.below hb2 hXl)
       have HO2:=qh (HOZ.out.below hb2 nlr)
       have f9:=fun j=>HX2.out.frozen j
       have x9:=HX2.out.cell 9
       have x10:=HX2.out.cell 10
       have x11:=HX2.out.cell 11
       have hX2l:=HX2.out.lt
       simp only [gE3] at x9 x10 x11
       go_upto_region 16 with (fail)
       refine abs_world (P:=fun u=>Code.wp _ _ _ _ u) (R:=fun z=>Blk z X 79 #[.int .i64 2, .int .i64 sq, .int .i64 dy, .int .i64 tb, .slice A' row.length c', .int .i64 key.kind, .int .i64 key.num, .string key.text, .int .i64 cl, .int .i64 0, .int .i64 0, .string ⟨#[]⟩]∧Owns z u.heap.size 53 Val.cells 3 (.slice A' row.length c') row∧Below u.heap.size u z) ⟨?_,?_,?_⟩ ?_
       ·exact blk_putU HX2.out
       ·exact owns_put3 HO2.out HX2.out (by decide)
       ·have hXu:u.heap.size≤X:=by rw [HXE.out];exact Nat.le_refl _
        exact belA
       clear f9 x9 x10 x11 hX2l HX2 HO2 hb2'
       rintro Y ⟨hXY,hOY,hbY⟩
       have HK5:=qh (HK.out.below (hbY))
       have kv5:=HK5.out.var.cell 0
       clear q0 q1 q2 q3 q4 q5 q6 q7 q8 q9 q10 q11
       obtain ⟨⟨q0,q1,q2,q3⟩,q4,⟨q5,q6,q7⟩,q8,q9,q10,q11⟩:=Chg.blkE (x:=⟨2,sq,dy,tb,A',c',row,key,cl,nulZ⟩) (hXY)
       simp only [gE3] at kv5 q0 q1 q2 q3 q4 q5 q6 q7 q8 q9 q10 q11
       have HOX:=qh ((hOY).mono hpk)
       have HBX:=qh (hbY)
       have hzX:=(hbY).size
       go_wp2_with (at_builtin;go_must (refine wpList_append_list _ rfl (.tmp 80) (.tmp 82) 36 rfl 79 ic _ Chg.cells 12 128 Tryz.underlying36 hic hzc1 hzc2 hzc3 rfl omA chg_len chg_one (pk + 1) (.slice KA kl.length kc) kl rfl (HK5.out.own.alloc _) _ _ _ [⟨2,sq,dy,tb,A',c',row,key,cl,nulZ⟩] rfl rfl (Blk.one (enc:=Chg.cells) (x:=⟨2,sq,dy,tb,A',c',row,key,cl,nulZ⟩) ((Blk.new' rfl).eq (by simp only [Chg.cells,List.length_nil])) spA) smA mxA smA ?_);intro v6 w6 hown6 hg6 hat6;obtain ⟨A6,c6,hv6,_,_⟩:=hown6.form;subst hv6;have HAPP:Hid (KeptL (w6.setCell ⟨pk,0,none⟩ (.slice A6 (kl.length + 1) c6)) pk A6 c6 (kl ++ [⟨2,sq,dy,tb,A',c',row,key,cl,nulZ⟩])):=qh (by have h:=(HK5.out.alloc _).app hg6 hown6 (x:=⟨2,sq,dy,tb,A',c',row,key,cl,nulZ⟩) (HOX.out.alloc _) (by simp only [List.length_nil];omega);rw [List.length_append] at h;exact h);have HV6:=qh ((HK5.out.alloc _).vgrown hg6);have kv6:=HV6.out.cell 0;have kf6:=fun j=>HV6.out.frozen j;have hp6:=HV6.out.lt;have HG6:=qh hg6;simp only [gE3] at kv6;clear hown6 hg6 hat6)
       first|go_end0|(refine bodyPost_ret (results_none rfl _ _ _) rfl ?_)
       refine ⟨rfl,⟨A6,c6,_,HAPP.out,?_,?_⟩,?_⟩
       ·simp [unC,hisV,hKeep,HNI.out,HNV.out]
       ·simp
       ·exact HK.out.frame (HBX.out.alloc hzX _) HG6.out _
    ·have hk2':(kd == 2)=false:=by simpa using hk2
     have hk2d:decide (kd = 2)=false:=by simpa using hk2
     go_upto_region 16 with (fail)
     have HK5:=qh (HK.out.below (hbZ))
     have kv5:=HK5.out.var.cell 0
     clear q0 q1 q2 q3 q4 q5 q6 q7 q8 q9 q10 q11
     obtain ⟨⟨q0,q1,q2,q3⟩,q4,⟨q5,q6,q7⟩,q8,q9,q10,q11⟩:=Chg.blkE (x:=⟨kd,sq,dy,tb,A',c',row,key,cl,vl⟩) (HXZ.out)
     simp only [gE3] at kv5 q0 q1 q2 q3 q4 q5 q6 q7 q8 q9 q10 q11
     have HOX:=qh ((HOZ.out).mono hpk)
     have HBX:=qh (hbZ)
     have hzX:=(hbZ).size
     go_wp2_with (at_builtin;go_must (refine wpList_append_list _ rfl (.tmp 80) (.tmp 82) 36 rfl 79 ic _ Chg.cells 12 128 Tryz.underlying36 hic hzc1 hzc2 hzc3 rfl omA chg_len chg_one (pk + 1) (.slice KA kl.length kc) kl rfl (HK5.out.own.alloc _) _ _ _ [⟨kd,sq,dy,tb,A',c',row,key,cl,vl⟩] rfl rfl (Blk.one (enc:=Chg.cells) (x:=⟨kd,sq,dy,tb,A',c',row,key,cl,vl⟩) ((Blk.new' rfl).eq (by simp only [Chg.cells,List.length_nil])) spA) smA mxA smA ?_);intro v6 w6 hown6 hg6 hat6;obtain ⟨A6,c6,hv6,_,_⟩:=hown6.form;subst hv6;have HAPP:Hid (KeptL (w6.setCell ⟨pk,0,none⟩ (.slice A6 (kl.length + 1) c6)) pk A6 c6 (kl ++ [⟨kd,sq,dy,tb,A',c',row,key,cl,vl⟩])):=qh (by have h:=(HK5.out.alloc _).app hg6 hown6 (x:=⟨kd,sq,dy,tb,A',c',row,key,cl,vl⟩) (HOX.out.alloc _) (by simp only [List.length_nil];omega);rw [List.length_append] at h;exact h);have HV6:=qh ((HK5.out.alloc _).vgrown hg6);have kv6:=HV6.out.cell 0;have kf6:=fun j=>HV6.out.frozen j;have hp6:=HV6.out.lt;have HG6:=qh hg6;simp only [gE3] at kv6;clear hown6 hg6 hat6)
     first|go_end0|(refine bodyPost_ret (results_none rfl _ _ _) rfl ?_)
     refine ⟨rfl,⟨A6,c6,_,HAPP.out,?_,?_⟩,?_⟩
     ·simp [unC,hisV,hKeep,HNI.out,hk1,hk2]
     ·simp
     ·exact HK.out.frame (HBX.out.alloc hzX _) HG6.out _
end Go.Proofs.YtjhnpnhpmdkpcaaGreat
