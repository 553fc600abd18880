/-
  Contracts and plain laws of this seat, part 25: PTab1, PTab2, PTab3, PTab4.
-/
import Derived.Test.YtjhnpnhpmdkpcaaGreatB9
import Derived.Test.YtjhnpnhpmdkpcaaGreatB17
import Derived.Test.YtjhnpnhpmdkpcaaGreatB14
set_option linter.unusedVariables false
set_option linter.unusedSimpArgs false
set_option maxRecDepth 100000
set_option maxHeartbeats 16000000
namespace Go.Proofs.YtjhnpnhpmdkpcaaGreat
open Go.RowKit Go
theorem lPTab11 {P:Prop} (h:P:=by
 go_wp2_with fail
 go_meet
 exact ⟨rfl,rfl⟩):P:=h
theorem tab_fitsType (v:Val) (x:Col) (w:World) {r:Bool} (hr:typedB v x.ty=r) :
 Calls Tryz.prog 117 #[.agg #[.int .i64 v.kind, .int .i64 v.num, .string v.text], .agg #[.string x.name, .int .i64 x.ty, .string x.ns, .string x.refs, .slice x.A x.own.length x.cap, .int .i64 x.joint, .int .i64 x.duty]] w fun e w'=>e = .returned (.bool r)∧Below w.heap.size w w':=by
 subst hr
 cases h1:(v.kind == 0)
 ·cases h2:(v.kind==x.ty)
  ·go_enter Tryz.func117,Tryz.ntmps117
   go_wp2_with fail
   go_ret
   exact ⟨ret_bool (by simp only [typedB,h1,h2];rfl),by exact belA⟩
  ·go_enter Tryz.func117,Tryz.ntmps117
   go_wp2_with fail
   go_ret
   exact ⟨ret_bool (by simp only [typedB,h1,h2];rfl),by exact belA⟩
 ·go_enter Tryz.func117,Tryz.ntmps117
  go_wp2_with fail
  go_ret
  exact ⟨ret_bool (by simp only [typedB,h1];rfl),by exact belA⟩
theorem value_ValidV (v:Val) (w:World) {r:Bool} (hr:valB v=r):Calls Tryz.prog 118 #[.agg #[.int .i64 v.kind, .int .i64 v.num, .string v.text]] w fun e w'=>e = .returned (.bool r)∧Ext w w':=by
 subst hr
 exact value_Valid _ _ _ _
theorem value_CompareV (a b:Val) (w:World) {r:Int} (hr:cmpVal a b=r):Calls Tryz.prog 122 #[.agg #[.int .i64 a.kind, .int .i64 a.num, .string a.text], .agg #[.int .i64 b.kind, .int .i64 b.num, .string b.text]] w fun e w'=>e = .returned (.int .i64 r)∧Ext w w':=by
 subst hr
 exact value_Compare _ _ _ _ _ _ _
theorem tab_validRecord (CA:Option Addr) (cc n:Nat) (cols:List Col) (RA:Option Addr) (rc:Nat) (row:List Val) (SA:Option Addr) (sc:Nat) (seq:List Int) (dy:Int) (w:World) (ht:SliceIs w w.heap.size Col.cells 7 CA cols) (hn:cols.length=n) (h0 : 0<n) (h8:n ≤ 8) (hR:SliceIs w w.heap.size Val.cells 3 RA row) (hS:SliceIs w w.heap.size intCells 1 SA seq) (hrl:row.length ≤ 1000000) (hsl:seq.length ≤ 1000000) {r:Bool} (hr:pb (RcdOk cols row seq dy)=r) :
 Calls Tryz.prog 148 #[.slice CA n cc, .agg #[.slice RA row.length rc, .slice SA seq.length sc, .int .i64 dy]] w fun e w'=>e = .returned (.bool r)∧Below w.heap.size w w':=by
 subst hr
 have HT:=qh ht
 have HR:=qh hR
 have HS:=qh hS
 have HN:=qh hn
 clear ht hR hS hn
 go_enter Tryz.func148,Tryz.ntmps148
 go_upto_region 1 with (fail)
 refine abs_world (P:=fun u=>Code.wp _ _ _ _ u) (R:=fun u=>Blk u w.heap.size 48 #[.slice RA row.length rc, .slice SA seq.length sc, .int .i64 dy]∧Below w.heap.size w u) ⟨?_,?_⟩ ?_
 ·exact Blk.new _ _ _
 ·exact belA
 rintro W ⟨hB,hbW⟩
 have hz:=hB.lt
 have HB:=qh hB
 have q0:=hB.cell 0
 have q1:=hB.cell 1
 have q2:=hB.cell 2
 simp only [gE3] at q0 q1 q2
 clear hB
 obtain ⟨r1,hr1⟩ : ∃ b,((row.length:Int) != (n:Int))=b:=⟨_,rfl⟩
 obtain ⟨r2,hr2⟩ : ∃ b,((seq.length:Int) != (n:Int))=b:=⟨_,rfl⟩
 obtain ⟨r3,hr3⟩ : ∃ b,decide (dy < 0)=b:=⟨_,rfl⟩
 obtain ⟨r4,hr4⟩ : ∃ b,decide (1048576<dy)=b:=⟨_,rfl⟩
 go_cut [31] (fun v wc=>v = .bool (r1||(r2||(r3||r4)))∧W=wc)
 case first =>
  cases r1
  ·cases r2
   ·cases r3
    ·cases r4
     ·exact lPTab11
     ·exact lPTab11
    ·exact lPTab11
   ·exact lPTab11
  ·exact lPTab11
 case rest =>
  obtain ⟨rfl,rfl⟩:=hcut
  cases hb:(r1||(r2||(r3||r4)))
  ·simp only [Bool.or_eq_false_iff] at hb
   obtain ⟨rfl,rfl,rfl,rfl⟩:=hb
   have e1:row.length=n:=by have h:=hr1;simp at h;omega
   have e2:seq.length=n:=by have h:=hr2;simp at h;omega
   have hday:withinB dy 0 1048576=true:=by
    rw [decide_eq_false_iff_not] at hr3 hr4
    rw [withinB,Bool.and_eq_true,decide_eq_true_iff,decide_eq_true_iff]
    omega
   have HD:=qh hday
   have E1:=qh e1
   have E2:=qh e2
   clear hr1 hr2 hr3 hr4 hday
   rw [e1] at q0
   rw [e2] at q1
   have HB':Hid (Blk W w.heap.size 48 #[.slice RA n rc, .slice SA n sc, .int .i64 dy]):=qh (by have h:=HB.out;rw [e1,e2] at h;exact h)
   clear e1 e2 HB
   go_upto_region 4 with (fail)
   go_loopw [35] (fun vi wr => ∃ m:Nat,m≤n∧vi = .int .i64 m∧Below W.heap.size W wr∧(∀ i,i<m→CellOk cols row seq i)) (fun vi _=>n - (intOf vi).toNat)
   case atStart=>exact ⟨0,Nat.zero_le _,rfl,Below.refl _ _,fun i h=>by omega⟩
   case round =>
    obtain ⟨m,hm,rfl,hbr,hok⟩:=hrel
    have HOK:=qh hok
    have hxr:=below_nextN hbW hbr hbW.size
    have hwz:=hbr.size
    clear q0 q1 q2
    have q0:=(HB'.out.below hbr hz).cell 0
    have q1:=(HB'.out.below hbr hz).cell 1
    simp only [gE3] at q0 q1
    clear hok
    by_cases hlt:m<n
    ·have hmc:m<cols.length:=by rw [HN.out];exact hlt
     have hmr:m<row.length:=by rw [E1.out];exact hlt
     have hms:m<seq.length:=by rw [E2.out];exact hlt
     have hm0 : 0<seq.length:=by rw [E2.out];omega
     obtain ⟨cb,co,rfl,hcb,hcc⟩:=(HT.out.below hxr).get hmc
     obtain ⟨rb,ro,rfl,hrb,hrc⟩:=(HR.out.below hxr).get hmr
     obtain ⟨sb,so,rfl,hsb,hsc⟩:=(HS.out.below hxr).get hms
     obtain ⟨sb',so',he',_,hsc0⟩:=(HS.out.below hxr).get hm0
     injection he' with he'
     injection he' with he1 he2
     subst he1 he2
     obtain ⟨c0,c1,c2,c3,c4,c5,c6⟩:=Col.cells7 hcc
     obtain ⟨y0,y1,y2⟩:=Val.cells3 hrc
     have s0:=hsc 0 _ rfl
     have s00:=hsc0 0 _ rfl
     simp only [Nat.mul_one,Nat.add_zero,Nat.zero_add] at s0 s00
     obtain ⟨v,hv⟩ : ∃ v,row[m]=v:=⟨_,rfl⟩
     obtain ⟨x,hx⟩ : ∃ x,cols[m]=x:=⟨_,rfl⟩
     obtain ⟨sm,hsm⟩ : ∃ x,seq[m]=x:=⟨_,rfl⟩
     obtain ⟨sz,hsz⟩ : ∃ x,seq[0]=x:=⟨_,rfl⟩
     have HCELL:Hid (CellOk cols row seq m↔(valB v=true∧typedB v x.ty=true)∧(1≤sm∧sm ≤ 1073741824∧sz≤sm)):=qh ⟨fun h=>by
      have a:=h.pos hms
      rw [hsm,withinB,Bool.and_eq_true,decide_eq_true_iff,decide_eq_true_iff] at a
      have b:=h.asc hms hm0
      rw [hsm,hsz] at b
      exact ⟨⟨by rw [← hv];exact h.val hmr,by rw [← hv,← hx];exact h.typ hmr hmc⟩,a.1,a.2,b⟩,
      fun ⟨⟨a,b⟩,c,d,e⟩=>⟨fun _=>by rw [hv];exact a,fun _ _=>by rw [hv,hx];exact b,fun _=>by rw [hsm,withinB,Bool.and_eq_true,decide_eq_true_iff,decide_eq_true_iff];exact ⟨c,d⟩,fun _ _=>by rw [hsm,hsz];exact e⟩⟩
     have HNOT:Hid (¬ CellOk cols row seq m → ¬ RcdOk cols row seq dy):=qh fun h1 h2=>h1 (h2.cell m hmc)
     rw [hv] at y0 y1 y2
     rw [hx] at c0 c1 c2 c3 c4 c5 c6
     rw [hsm] at s0
     rw [hsz] at s00
     clear hcc hrc hsc hsc0 hv hx hsm hsz
     go_upto_region 6 with (fail)
     refine abs_world (P:=fun u=>Code.wp _ _ _ _ u) (R:=fun u=>Blk u wr.heap.size 53 v.cells.toArray∧Below wr.heap.size wr u) ⟨?_,?_⟩ ?_
     ·exact Blk.new _ _ _
     ·exact belA
     rintro U ⟨hV,hbU⟩
     have hyU:=below_nextN hbr hbU hwz
     have v0:=hV.cell 0
     have v1:=hV.cell 1
     have v2:=hV.cell 2
     simp only [Val.cells,gE3] at v0 v1 v2
     have hvl:=hV.lt
     have hUz:=hbU.size
     have hxz:=hxr.size
     replace c0:=(hbU.cell (p:=⟨cb,_,none⟩) (show cb<wr.heap.size by omega)).trans c0
     replace c1:=(hbU.cell (p:=⟨cb,_,none⟩) (show cb<wr.heap.size by omega)).trans c1
     replace c2:=(hbU.cell (p:=⟨cb,_,none⟩) (show cb<wr.heap.size by omega)).trans c2
     replace c3:=(hbU.cell (p:=⟨cb,_,none⟩) (show cb<wr.heap.size by omega)).trans c3
     replace c4:=(hbU.cell (p:=⟨cb,_,none⟩) (show cb<wr.heap.size by omega)).trans c4
     replace c5:=(hbU.cell (p:=⟨cb,_,none⟩) (show cb<wr.heap.size by omega)).trans c5
     replace c6:=(hbU.cell (p:=⟨cb,_,none⟩) (show cb<wr.heap.size by omega)).trans c6
     replace s0:=(hbU.cell (p:=⟨sb,_,none⟩) (show sb<wr.heap.size by omega)).trans s0
     replace s00:=(hbU.cell (p:=⟨sb,_,none⟩) (show sb<wr.heap.size by omega)).trans s00
     replace q1:=(hbU.cell (p:=⟨w.heap.size,_,none⟩) (show w.heap.size<wr.heap.size by omega)).trans q1
     clear q0 y0 y1 y2 hV
     go_cut [51] (fun u wc=>u = .bool (!(valB v&&typedB v x.ty))∧Below U.heap.size U wc)
     case first =>
      have hk0:=keepQ (w:=U) wr.heap.size hvl
      have hk1:=keepQ (w:=U) cb omA
      cases hv1:valB v
      ·have HV1:=qh hv1
       clear hv1
       refine wp_region_bel krA krA ?_;(repeat (go_big_quiet_step ((first
        | (go_at_call 118;with_reducible exact bel_of_ext (value_ValidV v _ HV1.out))))));refine wpQuiet_nil ?_;intro wq hq
       go_wp2_with fail
       go_meet
       exact ⟨by rw [HV1.out];rfl,hq⟩
      ·cases hv2:typedB v x.ty
       ·have HV1:=qh hv1
        have HV2:=qh hv2
        clear hv1 hv2
        refine wp_region_bel krA krA ?_;(repeat (go_big_quiet_step ((first
         | (go_at_call 118;with_reducible exact bel_of_ext (value_ValidV v _ HV1.out))
         | (go_at_call 117;with_reducible exact bel_of (tab_fitsType v x _ HV2.out))))));refine wpQuiet_nil ?_;intro wq hq
        go_wp2_with fail
        go_meet
        exact ⟨by rw [HV1.out,HV2.out];rfl,hq⟩
       ·have HV1:=qh hv1
        have HV2:=qh hv2
        clear hv1 hv2
        refine wp_region_bel krA krA ?_;(repeat (go_big_quiet_step ((first
         | (go_at_call 118;with_reducible exact bel_of_ext (value_ValidV v _ HV1.out))
         | (go_at_call 117;with_reducible exact bel_of (tab_fitsType v x _ HV2.out))))));refine wpQuiet_nil ?_;intro wq hq
        go_wp2_with fail
        go_meet
        exact ⟨by rw [HV1.out,HV2.out];rfl,hq⟩
     case rest =>
      obtain ⟨rfl,hbq⟩:=hcut
      obtain ⟨V,rfl⟩ : ∃ V:World,V=wc:=⟨_,rfl⟩
      have hyV:=below_nextN hyU hbq hyU.size
      have hxV:=below_nextN hbW hyV hbW.size
      replace s0:=(hbq.cell (p:=⟨sb,_,none⟩) (show sb<U.heap.size by omega)).trans s0
      replace s00:=(hbq.cell (p:=⟨sb,_,none⟩) (show sb<U.heap.size by omega)).trans s00
      replace q1:=(hbq.cell (p:=⟨w.heap.size,_,none⟩) (show w.heap.size<U.heap.size by omega)).trans q1
      clear c0 c1 c2 c3 c4 c5 c6 v0 v1 v2 hbq
      cases hvb:(valB v&&typedB v x.ty)
      ·have HNO:Hid (¬ RcdOk cols row seq dy):=qh (HNOT.out fun h=>by
        have h1:=(HCELL.out.1 h).1
        rw [h1.1,h1.2] at hvb
        cases hvb)
       clear hvb
       go_wp2_with fail
       go_ret
       exact ⟨ret_bool (pb_false HNO.out).symm,hxV⟩
      ·have HVB:=qh hvb
       clear hvb
       obtain ⟨t1,ht1⟩ : ∃ b,decide (sm < 1)=b:=⟨_,rfl⟩
       obtain ⟨t2,ht2⟩ : ∃ b,decide (1073741824<sm)=b:=⟨_,rfl⟩
       obtain ⟨t3,ht3⟩ : ∃ b,decide (sm<sz)=b:=⟨_,rfl⟩
       go_upto_region 9 with (fail)
       go_cut [70] (fun u wc=>u = .bool (t1||(t2||t3))∧V=wc)
       case first =>
        cases t1
        ·cases t2
         ·cases t3
          ·exact lPTab11
          ·exact lPTab11
         ·exact lPTab11
        ·exact lPTab11
       case rest =>
        obtain ⟨rfl,rfl⟩:=hcut
        cases htb:(t1||(t2||t3))
        ·have HYES:Hid (CellOk cols row seq m):=qh (HCELL.out.2 (by
          have h1:=HVB.out
          rw [Bool.and_eq_true] at h1
          simp only [Bool.or_eq_false_iff] at htb
          obtain ⟨rfl,rfl,rfl⟩:=htb
          rw [decide_eq_false_iff_not] at ht1 ht2 ht3
          exact ⟨h1,by omega,by omega,by omega⟩))
         clear htb ht1 ht2 ht3
         go_wp2_with fail
         go_roundw
         case rel =>
          exact ⟨m + 1,by omega,by go_num,hyV,fun i hi=>by
           rcases Nat.lt_or_ge i m with h1|h1
           ·exact HOK.out i h1
           ·obtain rfl:i=m:=by omega
            exact HYES.out⟩
         case measure=>exact meA
        ·have HNO:Hid (¬ RcdOk cols row seq dy):=qh (HNOT.out fun h=>by
          have h1:=(HCELL.out.1 h).2
          rw [← ht1,← ht2,← ht3] at htb
          simp at htb
          omega)
         clear htb ht1 ht2 ht3
         go_wp2_with fail
         go_ret
         exact ⟨ret_bool (pb_false HNO.out).symm,hxV⟩
    ·have hlt':decide (m<n)=false:=by simpa using hlt
     have hmr : 0<row.length:=by rw [E1.out];exact h0
     obtain ⟨rb,ro,rfl,hrb,hrc⟩:=(HR.out.below hxr).get hmr
     obtain ⟨y0,y1,y2⟩:=Val.cells3 hrc
     simp only [Nat.zero_mul,Nat.add_zero] at y0
     have HIFF:Hid (RcdOk cols row seq dy↔row[0].kind ≠ 0):=qh ⟨fun h=>h.key hmr,fun h=>⟨by rw [E1.out,HN.out],by rw [E2.out,HN.out],HD.out,fun i hi=>HOK.out i (by have:=HN.out;omega),fun _=>h⟩⟩
     obtain ⟨k,hk⟩ : ∃ k,row[0].kind=k:=⟨_,rfl⟩
     have HK:=qh hk
     rw [hk] at y0
     have d0:decide (0<n)=true:=by simpa using h0
     clear hrc y1 y2 hk
     go_wp2_with fail
     go_ret
     refine ⟨ret_bool ?_,hxr⟩
     by_cases hk0:k = 0
     ·rw [pb_false fun h=>HIFF.out.1 h (by rw [HK.out,hk0]),hk0];rfl
     ·rw [pb_true (HIFF.out.2 (by rw [HK.out];exact hk0))]
      simpa using hk0
  ·have HNO:Hid (¬ RcdOk cols row seq dy):=qh fun h=>by
    have d:=h.day
    rw [withinB,Bool.and_eq_true,decide_eq_true_iff,decide_eq_true_iff] at d
    have l1:=h.len
    have l2:=h.slen
    have hn:=HN.out
    rw [← hr1,← hr2,← hr3,← hr4] at hb
    simp at hb
    omega
   go_wp2_with fail
   go_ret
   exact ⟨ret_bool (pb_false HNO.out).symm,hbW⟩
open Go.RowKit Go
noncomputable def insF (recs:List Rcd) (m:Nat):Value→Option Value:=fun x=>if pb (∃ j,∃ h:j<recs.length,j<m∧x = .int .i64 (headS recs[j]))=true then some (.bool true) else none
theorem insF_new {recs:List Rcd} {m:Nat} (hm:m<recs.length):insF recs (m + 1) (.int .i64 (headS recs[m]))=some (.bool true):=by
 unfold insF
 rw [if_pos (pb_true ⟨m,hm,by omega,rfl⟩)]
theorem insF_old {recs:List Rcd} {m:Nat} (hm:m<recs.length) {u:Value} (hu:u ≠ .int .i64 (headS recs[m])):insF recs (m + 1) u=insF recs m u:=by
 unfold insF
 by_cases h : ∃ j,∃ h:j<recs.length,j<m∧u = .int .i64 (headS recs[j])
 ·rw [if_pos (pb_true h)]
  obtain ⟨j,h1,h2,h3⟩:=h
  rw [if_pos (pb_true ⟨j,h1,by omega,h3⟩)]
 ·have h2 : ¬ ∃ j,∃ h:j<recs.length,j<m + 1∧u = .int .i64 (headS recs[j]):=by
   rintro ⟨j,h1,h2,h3⟩
   rcases Nat.lt_or_ge j m with h4|h4
   ·exact h ⟨j,h1,h4,h3⟩
   ·obtain rfl:j=m:=by omega
    exact hu h3
  rw [pb_false h,pb_false h2]
theorem made_ins (w:World) (recs:List Rcd):MapV Tryz.prog 3 4 (w.alloc (.map #[] 0)) w.heap.size 0 (insF recs 0) :=
 (MapV.made w _ _ _).eqf fun x kl _=>by
   unfold insF
   rw [pb_false (by rintro ⟨j,_,h,_⟩;omega)]
   rfl
theorem int_key {a:Int} (h : 0≤a∧a ≤ 1073741824):Go.keyOf Tryz.prog 3 (.int .i64 a)=some (.int .i64 a):=Maps.keyOf_int_mk Tryz.underlying3 (by
 have h1:IntKind.i64.min≤a:=Int.le_trans (by decide) h.1
 have h2:a≤IntKind.i64.max:=Int.le_trans h.2 (by decide)
 simp [Lit.wf,h1];omega)
theorem i_keyed:Maps.Keyed Tryz.prog 3:=Maps.int_keyed Tryz.underlying3
theorem rtab_bad_rec {cols:List Col} {recs:List Rcd} {m:Nat} (hm:m<recs.length) (h : ¬ RcdOk cols recs[m].row recs[m].seq recs[m].day) : ¬ RTabOk cols recs:=fun k=>h (k.at_ m hm).ok
theorem tab_validRecords (CA:Option Addr) (cc n:Nat) (cols:List Col) (A:Option Addr) (c l:Nat) (recs:List Rcd) (w:World) (ht:SliceIs w w.heap.size Col.cells 7 CA cols) (hn:cols.length=n) (h0 : 0<n) (h8:n ≤ 8) (hR:RecsIn w w.heap.size A recs) (hl:recs.length=l) (hl1:l ≤ 1000000) (hsr : ∀ r∈recs,r.row.length ≤ 1000000∧r.seq.length ≤ 1000000) {r:Bool} (hr:pb (RTabOk cols recs)=r) :
 Calls Tryz.prog 107 #[.slice CA n cc, .slice A l c] w fun e w'=>e = .returned (.bool r)∧Below w.heap.size w w':=by
 subst hr hl
 have hmm := @run_makeMap Tryz.prog
 by_cases h64 : 64<recs.length
 ·have d0:decide (64<recs.length)=true:=by simpa using h64
  have HNO:Hid (¬ RTabOk cols recs):=qh fun h=>by have:=h.len;omega
  clear hmm
  go_enter Tryz.func107,Tryz.ntmps107
  go_wp2_with fail
  go_ret
  exact ⟨ret_bool (pb_false HNO.out).symm,Below.refl _ _⟩
 have d0:decide (64<recs.length)=false:=by simpa using h64
 have HT:=qh ht
 have HR1:=qh hR.1
 have HR2:=qh hR.2
 have HN:=qh hn
 have HSR:=qh hsr
 clear ht hR hn hsr
 go_enter Tryz.func107,Tryz.ntmps107
 go_upto_region 5 with (fail)
 clear hmm d0
 go_loopw [14] (fun vi wr => ∃ m:Nat,m≤recs.length∧vi = .int .i64 m∧Below w.heap.size w wr∧MapV Tryz.prog 3 4 wr w.heap.size m (insF recs m)∧(∀ k (h:k<recs.length),k<m→RecAt cols recs k h)) (fun vi _=>recs.length - (intOf vi).toNat)
 case atStart=>exact ⟨0,Nat.zero_le _,rfl,by exact belA,made_ins w recs,fun k _ h=>by omega⟩
 case round =>
  obtain ⟨m,hm,rfl,hbr,hmv,hok⟩:=hrel
  have HOK:=qh hok
  have HMV:=qh hmv
  have hml:=hmv.lt
  have hwz:=hbr.size
  clear hok hmv
  by_cases hlt:m<recs.length
  ·obtain ⟨b5,o5,rfl,hb5,hc5⟩:=(HR1.out.below hbr).get hlt
   obtain ⟨g0,g1,g2⟩:=Rcd.cells3 hc5
   have hrow:=HR2.out recs[m] (lgm hlt)
   have hsan:=HSR.out recs[m] (lgm hlt)
   have hrow1:=hrow.1
   have hrow2:=hrow.2
   obtain ⟨x,hx⟩ : ∃ x,recs[m]=x:=⟨_,rfl⟩
   have HX:=qh hx
   rw [hx] at g0 g1 g2 hrow1 hrow2 hsan
   obtain ⟨QA,qc,row,SA,sc,sq,dy⟩:=x
   simp only at g0 g1 g2 hrow1 hrow2 hsan
   have HROW:=qh hrow1
   have HSEQ:=qh hrow2
   obtain ⟨hs1,hs2⟩:=hsan
   clear hc5 hrow hx hrow1 hrow2
   go_upto_region 7 with (fail)
   refine abs_world (P:=fun u=>Code.wp _ _ _ _ u) (R:=fun u=>Blk u wr.heap.size 48 #[.slice QA row.length qc, .slice SA sq.length sc, .int .i64 dy]∧MapV Tryz.prog 3 4 u w.heap.size m (insF recs m)∧Below wr.heap.size wr u) ⟨?_,?_,?_⟩ ?_
   ·exact Blk.new _ _ _
   ·exact HMV.out.alloc _
   ·exact belA
   rintro U ⟨hD,hMU,hbU⟩
   have hUz:=hbU.size
   have hDl:=hD.lt
   have hyU:=below_nextN hbr hbU hwz
   have d1:=hD.cell 0
   have d2:=hD.cell 1
   have d3:=hD.cell 2
   simp only [gE3] at d1 d2 d3
   have HMU:=qh hMU
   have HD:=qh hD
   clear g0 g1 g2 hD hMU HMV
   cases hv:pb (RcdOk cols row sq dy)
   ·have HNO:Hid (¬ RTabOk cols recs):=qh (rtab_bad_rec hlt (by rw [HX.out];intro h;rw [pb_true h] at hv;cases hv))
    have HV:=qh hv
    clear hv
    go_wp2_with (go_at_call 148;(with_reducible refine (tab_validRecord CA cc n cols QA qc row SA sc sq dy _ (HT.out.next hyU) HN.out h0 h8 (HROW.out.next hyU) (HSEQ.out.next hyU) hs1 hs2 HV.out).mono ?_);rintro e w1 ⟨rfl,hb1⟩;have hx1:Below w.heap.size w w1:=below_nextN hyU hb1 hyU.size)
    go_ret
    exact ⟨ret_bool (pb_false HNO.out).symm,hx1⟩
   ·have hrok:=pb_iff.1 hv
    have hsl : 0<sq.length:=by rw [hrok.slen,HN.out];exact h0
    have hrl : 0<row.length:=by rw [hrok.len,HN.out];exact h0
    have hpos:=(hrok.cell 0 (by rw [HN.out];exact h0)).pos hsl
    rw [withinB,Bool.and_eq_true,decide_eq_true_iff,decide_eq_true_iff] at hpos
    obtain ⟨b6,o6,rfl,hb6,hc6⟩:=(HSEQ.out.below hyU).get hsl
    have s0:=hc6 0 _ rfl
    simp only [Nat.zero_mul,Nat.add_zero] at s0
    obtain ⟨z,hz⟩ : ∃ z,sq[0]=z:=⟨_,rfl⟩
    rw [hz] at s0 hpos
    have hhd:headS recs[m]=z:=by rw [HX.out,← hz];exact (head_seq (r:=⟨QA,qc,row,some ⟨b6,o6,none⟩,sc,sq,dy⟩) hsl).symm
    have HHD:=qh hhd
    have HROK:=qh hrok
    have HV:=qh hv
    have HZ:=qh hz
    clear hv hc6 hrok hz hhd
    obtain ⟨sn,hsn⟩ : ∃ b,pb (∃ j,∃ h:j<recs.length,j<m∧Value.int .i64 z = .int .i64 (headS recs[j]))=b:=⟨_,rfl⟩
    have hins:insF recs m (.int .i64 z)=if sn=true then some (.bool true) else none:=by unfold insF;rw [hsn]
    have HINS:=qh hins
    have HSN:=qh hsn
    clear hins hsn
    go_cut [30] (fun v wc=>v = .bool sn∧Below U.heap.size U wc)
    case first =>
     cases sn
     ·go_wp2_with (go_at_call 148;(with_reducible refine (tab_validRecord CA cc n cols QA qc row _ sc sq dy _ (HT.out.next hyU) HN.out h0 h8 (HROW.out.next hyU) (HSEQ.out.next hyU) hs1 hs2 HV.out).mono ?_);rintro e w1 ⟨rfl,hb1⟩;have k1:=(hb1.cell (p:=⟨wr.heap.size,1,none⟩) hDl).trans d2;have k2:=(hb1.cell (p:=⟨b6,o6,none⟩) (show b6<U.heap.size by omega)).trans s0;have hlk:(Instr.lookup 207 (.map (some w.heap.size)) (.int .i64 z) false).run Tryz.prog w1 = .ok (.bool false) w1:=(by (have h:=(HMU.out.below hb1 (show w.heap.size<U.heap.size by omega)).look i_keyed Tryz.underlying207 (zero_bool w1) (pe_bool false) (int_key (a:=z) ⟨by omega,by omega⟩);rw [HINS.out] at h;exact h)))
      go_meet
      exact ⟨rfl,hb1⟩
     ·go_wp2_with (go_at_call 148;(with_reducible refine (tab_validRecord CA cc n cols QA qc row _ sc sq dy _ (HT.out.next hyU) HN.out h0 h8 (HROW.out.next hyU) (HSEQ.out.next hyU) hs1 hs2 HV.out).mono ?_);rintro e w1 ⟨rfl,hb1⟩;have k1:=(hb1.cell (p:=⟨wr.heap.size,1,none⟩) hDl).trans d2;have k2:=(hb1.cell (p:=⟨b6,o6,none⟩) (show b6<U.heap.size by omega)).trans s0;have hlk:(Instr.lookup 207 (.map (some w.heap.size)) (.int .i64 z) false).run Tryz.prog w1 = .ok (.bool true) w1:=(by (have h:=(HMU.out.below hb1 (show w.heap.size<U.heap.size by omega)).look i_keyed Tryz.underlying207 (zero_bool w1) (pe_bool false) (int_key (a:=z) ⟨by omega,by omega⟩);rw [HINS.out] at h;exact h)))
      go_meet
      exact ⟨rfl,hb1⟩
    case rest =>
     obtain ⟨rfl,hb1⟩:=hcut
     obtain ⟨V,rfl⟩ : ∃ V:World,V=wc:=⟨_,rfl⟩
     have hyV:=below_nextN hyU hb1 hyU.size
     have hVz:=hb1.size
     have HMV:=qh (HMU.out.below hb1 (show w.heap.size<U.heap.size by omega))
     have HDV:=qh (HD.out.below hb1 hDl)
     have k0:=(hb1.cell (p:=⟨wr.heap.size,0,none⟩) hDl).trans d1
     have k1:=(hb1.cell (p:=⟨wr.heap.size,1,none⟩) hDl).trans d2
     have k2:=(hb1.cell (p:=⟨b6,o6,none⟩) (show b6<U.heap.size by omega)).trans s0
     clear d1 d2 d3 s0
     cases sn
     ·have hnew:insF recs (m + 1) (.int .i64 z)=some (.bool true):=by have h:=insF_new hlt;rw [HHD.out] at h;exact h
      have hold : ∀ u,u ≠ .int .i64 z→insF recs (m + 1) u=insF recs m u:=fun u hu=>insF_old hlt (by rw [HHD.out];exact hu)
      have HNEW:=qh hnew
      have HOLD:=qh hold
      clear hnew hold
      go_upto_region 10 with (at_mapUpdate;refine wpList_storeV _ rfl _ _ _ _ rfl 3 4 i_keyed Tryz.underlying207 w.heap.size m _ rfl HMV.out (by unfold maxLen;omega) (.int .i64 z) _ rfl (int_key ⟨by omega,by omega⟩) (.bool true) rfl _ (pe_bool _) (insF recs (m + 1)) HNEW.out HOLD.out ?_;intro w2 hM2 hg2)
      have hy2:Below w.heap.size w w2:=Below.grown hyV hg2 omA (fun q e=>by injection e with e;omega)
      have h2z:=hg2.size
      have HM2:=qh hM2
      have hD2:=HDV.out.grown hg2 (fun e=>by injection e with e;omega)
      have hD2l:=hD2.lt
      have d1:=hD2.cell 0
      simp only [gE3] at d1
      clear k0 k1 k2 hM2 hD2
      obtain ⟨bb,hbb⟩ : ∃ b,pb (∀ h0 : 0<m,cmpVal (headV recs[m - 1]) (headV recs[m]) < 0)=b:=⟨_,rfl⟩
      have HBB:=qh hbb
      simp only [Act.put]
      go_cut [53] (fun v wc=>v = .bool (!bb)∧Below w2.heap.size w2 wc)
      case first =>
       rcases Nat.eq_zero_or_pos m with hm0|hm0
       ·have hbt:bb=true:=by rw [← hbb];exact pb_true fun h=>by omega
        have hk0:=keepQ (w:=w2) b5 omA
        subst hbt hm0
        refine wp_region_bel krA krA ?_;(repeat (go_big_quiet_step (fail)));refine wpQuiet_nil ?_;intro wq hq
        go_wp2_with fail
        go_meet
        exact ⟨rfl,hq⟩
       ·obtain ⟨q,rfl⟩ : ∃ q,m=q + 1:=⟨m - 1,by omega⟩
        have hql:q<recs.length:=by omega
        obtain ⟨b7,o7,hbe,hb7,hc7⟩:=(HR1.out.below hy2).get hql
        injection hbe with hbe
        injection hbe with hbe1 hbe2
        subst hbe1 hbe2
        obtain ⟨g0,_,_⟩:=Rcd.cells3 hc7
        have hrq:=(HOK.out q hql omA).ok
        have hrql : 0<recs[q].row.length:=by rw [hrq.len,HN.out];exact h0
        obtain ⟨b8,o8,hbe8,hb8,hc8⟩:=((HR2.out recs[q] (lgm hql)).1.below hy2).get hrql
        obtain ⟨x0,x1,x2⟩:=Val.cells3 hc8
        rw [hbe8] at g0
        have hh1:recs[q].row[0]=headV recs[q]:=head_row hrql
        rw [hh1] at x0 x1 x2
        obtain ⟨pv,hpv⟩ : ∃ v,headV recs[q]=v:=⟨_,rfl⟩
        rw [hpv] at x0 x1 x2
        obtain ⟨b9,o9,rfl,hb9,hc9⟩:=(HROW.out.below hy2).get hrl
        obtain ⟨y0,y1,y2⟩:=Val.cells3 hc9
        have hh2:headV recs[q + 1]=row[0]:=by rw [HX.out];exact (head_row (r:=⟨some ⟨b9,o9,none⟩,qc,row,some ⟨b6,o6,none⟩,sc,sq,dy⟩) hrl).symm
        obtain ⟨qv,hqv⟩ : ∃ v,row[0]=v:=⟨_,rfl⟩
        rw [hqv] at y0 y1 y2 hh2
        simp only [Nat.zero_mul,Nat.add_zero] at x0 x1 x2 y0 y1 y2
        obtain ⟨cm,hcm⟩ : ∃ k,cmpVal pv qv=k:=⟨_,rfl⟩
        have hbe:bb = !decide (0≤cm):=by
         rw [← hbb]
         by_cases hlt0:cm < 0
         ·rw [pb_true fun _=>by simp only [Nat.add_sub_cancel];rw [hpv,hh2,hcm];exact hlt0]
          simp;omega
         ·rw [pb_false fun h=>by have h:=h omA;simp only [Nat.add_sub_cancel] at h;rw [hpv,hh2,hcm] at h;omega]
          simp;omega
        have HCM:=qh hcm
        have HBE:=qh hbe
        have hk0:=keepQ (w:=w2) b5 omA
        have hk1:=keepQ (w:=w2) b8 omA
        have hk2:=keepQ (w:=w2) b9 omA
        have hk3:=keepQ (w:=w2) wr.heap.size hD2l
        have hd:decide (0<q + 1)=true:=by simp
        clear hc7 hc8 hc9 hh1 hpv hh2 hqv hcm hbb hbe8 hrq hbe
        cases hcd:decide (0≤cm)
        ·refine wp_region_bel krA krA ?_;(repeat (go_big_quiet_step ((go_at_call 122;with_reducible exact bel_of_ext (value_CompareV pv qv _ HCM.out)))));refine wpQuiet_nil ?_;intro wq hq
         go_wp2_with fail
         go_meet
         exact ⟨by rw [HBE.out,hcd];rfl,hq⟩
        ·refine wp_region_bel krA krA ?_;(repeat (go_big_quiet_step ((go_at_call 122;with_reducible exact bel_of_ext (value_CompareV pv qv _ HCM.out)))));refine wpQuiet_nil ?_;intro wq hq
         go_wp2_with fail
         go_meet
         exact ⟨by rw [HBE.out,hcd];rfl,hq⟩
      case rest =>
       obtain ⟨rfl,hb3⟩:=hcut
       obtain ⟨V3,rfl⟩ : ∃ V3:World,V3=wc:=⟨_,rfl⟩
       have hy3:=below_nextN hy2 hb3 hy2.size
       have HM3:=qh (HM2.out.below hb3 (show w.heap.size<w2.heap.size by omega))
       cases bb
       ·have HNO:Hid (¬ RTabOk cols recs):=qh fun h=>by
         have h1:=pb_true (h.at_ m hlt).asc
         rw [HBB.out] at h1
         cases h1
        clear hbb d1
        go_wp2_with fail
        go_ret
        exact ⟨ret_bool (pb_false HNO.out).symm,hy3⟩
       ·have HREC:Hid (RecAt cols recs m hlt):=qh ⟨by rw [HX.out];exact HROK.out,pb_iff.1 HBB.out,fun j hj he=>by
         have h1:=pb_true (p := ∃ j,∃ h:j<recs.length,j<m∧Value.int .i64 z = .int .i64 (headS recs[j])) ⟨j,by omega,hj,by rw [he,HHD.out]⟩
         rw [HSN.out] at h1
         cases h1⟩
        clear hbb d1
        go_wp2_with fail
        go_roundw
        case rel=>exact ⟨m + 1,by omega,by go_num,hy3,HM3.out,fun k h hk=>by
         rcases Nat.lt_or_ge k m with h1|h1
         ·exact HOK.out k h h1
         ·obtain rfl:k=m:=by omega
          exact HREC.out⟩
        case measure=>exact meA
     ·have HNO:Hid (¬ RTabOk cols recs):=qh fun h=>by
       obtain ⟨j,hj,hjm,he⟩:=pb_iff.1 HSN.out
       injection he with _ he
       exact (h.at_ m hlt).own j hjm (by rw [HHD.out,he])
      go_wp2_with fail
      go_ret
      exact ⟨ret_bool (pb_false HNO.out).symm,hyV⟩
  ·have hlt':decide (m<recs.length)=false:=by simpa using hlt
   have HYES:Hid (RTabOk cols recs):=qh ⟨by omega,fun k h=>HOK.out k h omA⟩
   go_wp2_with fail
   go_ret
   exact ⟨ret_bool (pb_true HYES.out).symm,hbr⟩
open Go.RowKit Go
variable {o:Oth}
structure SchIn (w:World) (p mb fb k:Nat) (A:Option Addr) (c:Nat) (ts:List Tab) (o:Oth):Prop where
 blk:Blk w p 142 #[.slice A ts.length c, .slice o.vA 0 o.vc, .slice o.iA o.idx.length o.ic, .slice o.sA o.skt.length o.sc, .slice o.cA o.cch.length o.cc, .slice o.rA o.rel.length o.rc, .slice o.tA o.str.length o.tc, .slice o.bA o.bak.length o.bc, .map (some mb), .slice (some ⟨fb,0,none⟩) ts.length ts.length]
 nums:MapV Tryz.prog 9 3 w mb k (numF ts k)
theorem SchIn.next {w w':World} {p mb fb k:Nat} {A:Option Addr} {c:Nat} {ts:List Tab} (h:SchIn w p mb fb k A c ts o) (hb:Below w.heap.size w w'):SchIn w' p mb fb k A c ts o :=
 ⟨h.blk.below hb h.blk.lt,h.nums.below hb h.nums.lt⟩
theorem Sch.blk {w:World} {g:Nat} {a0 a1 a2 a3 a4 a5 a6 a7 a8 a9:Value} (k:Blk w g 142 #[a0,a1,a2,a3,a4,a5,a6,a7,a8,a9]) :
 w.cell? ⟨g,0,none⟩=some a0∧w.cell? ⟨g,8,none⟩=some a8∧w.cell? ⟨g,9,none⟩=some a9:=⟨k.cell 0,k.cell 8,k.cell 9⟩
theorem infoInts:(Tryz.prog.info? 22).map (fun i=>(i.zero,i.size,i.bytes))=some (some (.slice none 0 0),1,24):=by kernel_rfl
theorem tab_newSchema (A:Option Addr) (c m:Nat) (ts:List Tab) (w:World) (ht:TabsIn w w.heap.size A ts) (hm:ts.length=m) (hs:SaneCat ts) (hok:CatOk ts) :
 Calls Tryz.prog 54 #[.agg #[.slice A m c, .slice o.vA 0 o.vc, .slice o.iA o.idx.length o.ic, .slice o.sA o.skt.length o.sc, .slice o.cA o.cch.length o.cc, .slice o.rA o.rel.length o.rc, .slice o.tA o.str.length o.tc, .slice o.bA o.bak.length o.bc]] w fun e w'=>(∃ p mb fb,e = .returned (.pointer (some ⟨p,0,none⟩))∧SchIn w' p mb fb ts.length A c ts o)∧Below w.heap.size w w':=by
 subst hm
 obtain ⟨i7,hi7,hz7,hs7,hb7⟩:=info_parts infoInts
 have h8:ts.length ≤ 8:=hok.len
 have hmk : ∀ u:World,(Instr.makeSlice 140 (.int .i64 (ts.length:Int)) (.int .i64 (ts.length:Int))).run Tryz.prog u = .ok (.slice (some ⟨u.heap.size,0,none⟩) ts.length ts.length) (u.alloc (.cells (madeCells (Value.slice none 0 0).cells (ts.length * 1)) 22)):=fun u=>by
  have:=run_make_rowN (P:=Tryz.prog) 140 22 i7 (.slice none 0 0) Tryz.underlying140 hi7 hz7 .i64 .i64 ts.length ts.length nlr (by rw [hb7];omega) omA u
  rw [hs7] at this
  exact this
 have hmm := @run_makeMap Tryz.prog
 have HT:=qh ht
 have HS:=qh hs
 have HOK:=qh hok
 clear ht hs hok hi7 hz7 hs7 hb7
 go_enter Tryz.func54,Tryz.ntmps54
 go_upto_region 1 with (fail)
 refine abs_world (P:=fun u=>Code.wp _ _ _ _ u) (R:=fun u=>Blk u w.heap.size 34 #[.slice A ts.length c, .slice o.vA 0 o.vc, .slice o.iA o.idx.length o.ic, .slice o.sA o.skt.length o.sc, .slice o.cA o.cch.length o.cc, .slice o.rA o.rel.length o.rc, .slice o.tA o.str.length o.tc, .slice o.bA o.bak.length o.bc]∧Below w.heap.size w u) ⟨?_,?_⟩ ?_
 ·exact Blk.new _ _ _
 ·exact belA
 rintro W ⟨hB,hbW⟩
 have hzW:=hB.lt
 have HB:=qh hB
 obtain ⟨p0,p1,p2,p3,p4,p5,p6,p7⟩:=Cat.blkO hB
 clear hB
 go_cut [3] (fun v wc => ∃ p mb fb,v = .pointer (some ⟨p,0,none⟩)∧w.heap.size≤p∧w.heap.size≤mb∧SchIn wc p mb fb 0 A c ts o∧Blk wc w.heap.size 34 #[.slice A ts.length c, .slice o.vA 0 o.vc, .slice o.iA o.idx.length o.ic, .slice o.sA o.skt.length o.sc, .slice o.cA o.cch.length o.cc, .slice o.rA o.rel.length o.rc, .slice o.tA o.str.length o.tc, .slice o.bA o.bak.length o.bc]∧Below w.heap.size w wc)
 case first =>
  refine wp_region_held_drew (S:=fun u=>u.cell? ⟨w.heap.size,0,none⟩=some (.slice A ts.length c)∧u.cell? ⟨w.heap.size,1,none⟩=some (.slice o.vA 0 o.vc)∧u.cell? ⟨w.heap.size,2,none⟩=some (.slice o.iA o.idx.length o.ic)∧u.cell? ⟨w.heap.size,3,none⟩=some (.slice o.sA o.skt.length o.sc)∧u.cell? ⟨w.heap.size,4,none⟩=some (.slice o.cA o.cch.length o.cc)∧u.cell? ⟨w.heap.size,5,none⟩=some (.slice o.rA o.rel.length o.rc)∧u.cell? ⟨w.heap.size,6,none⟩=some (.slice o.tA o.str.length o.tc)∧u.cell? ⟨w.heap.size,7,none⟩=some (.slice o.bA o.bak.length o.bc)) krA (Cat.blkO HB.out) (fun hHeld => ?_)
  refine tkH 0 hHeld ?_
  refine tkH 2 hHeld ?_
  refine tkH 3 hHeld ?_
  refine tkH 4 hHeld ?_
  refine wpAnyH_ready (rs := [1,5]) krA spA ?_
  refine AllReadyH.cons rfl (fun K hK => ?_) (AllReadyH.cons rfl (fun K hK => ?_) AllReadyH.nil)
  ·go_simp
   refine hK.out _ _ (Cat.blkO (HB.out.below belA hzW)) (fun hHeld => ?_)
   clear hK K
   (try simp only [Act.put,gP6])
   refine wpAnyH_ready (rs := [5]) krA spA ?_
   refine AllReadyH.cons rfl (fun K hK => ?_) AllReadyH.nil
   go_simp
   refine hK.out _ _ (Cat.blkO (HB.out.below belA hzW)) (fun hHeld => ?_)
   clear hK K
   (try simp only [Act.put,gP6])
   refine tkH 6 hHeld ?_
   refine wpAnyH_ready (rs := [7]) krA spA ?_
   refine AllReadyH.cons rfl (fun K hK => ?_) AllReadyH.nil
   go_simp
   refine hK.out _ _ (Cat.blkO (HB.out.below belA hzW)) (fun hHeld => ?_)
   clear hK K
   (try simp only [Act.put,gP6])
   refine tkH 8 hHeld ?_
   refine wpAnyH_done krA ?_ _
   go_wp2_with fail
   go_meet
   exact ⟨_,W.heap.size,W.heap.size + 1,rfl,by have:=hbW.size;omega,hbW.size,⟨(Blk.new' spA).drew,((((made_nums W ts).alloc _).alloc _).drew)⟩,HB.out.below belA hzW,by exact belA⟩
  ·go_simp
   refine hK.out _ _ (Cat.blkO (HB.out.below belA hzW)) (fun hHeld => ?_)
   clear hK K
   (try simp only [Act.put,gP6])
   refine wpAnyH_ready (rs := [1]) krA spA ?_
   refine AllReadyH.cons rfl (fun K hK => ?_) AllReadyH.nil
   go_simp
   refine hK.out _ _ (Cat.blkO (HB.out.below belA hzW)) (fun hHeld => ?_)
   clear hK K
   (try simp only [Act.put,gP6])
   refine tkH 6 hHeld ?_
   refine wpAnyH_ready (rs := [7]) krA spA ?_
   refine AllReadyH.cons rfl (fun K hK => ?_) AllReadyH.nil
   go_simp
   refine hK.out _ _ (Cat.blkO (HB.out.below belA hzW)) (fun hHeld => ?_)
   clear hK K
   (try simp only [Act.put,gP6])
   refine tkH 8 hHeld ?_
   refine wpAnyH_done krA ?_ _
   go_wp2_with fail
   go_meet
   have hmv:=made_nums (W.alloc (.cells (madeCells #[Value.slice none 0 0] ts.length) 22)) ts
   rw [show (W.alloc (.cells (madeCells #[Value.slice none 0 0] ts.length) 22)).heap.size=W.heap.size + 1 by simp] at hmv
   exact ⟨_,W.heap.size + 1,W.heap.size,rfl,by have:=hbW.size;omega,by have:=hbW.size;omega,⟨(Blk.new' spA).drew,((hmv.alloc _).drew)⟩,HB.out.below belA hzW,by exact belA⟩
 case rest =>
  obtain ⟨p,mb,fb,rfl,hp,hmb,hS,hB,hbx⟩:=hcut
  obtain ⟨W1,rfl⟩ : ∃ W1:World,W1=wc:=⟨_,rfl⟩
  have hz1:=hB.lt
  have HS1:=qh hS
  have HB1:=qh hB
  obtain ⟨p0,p1,p2,p3,p4,p5,p6,p7⟩:=Cat.blkO hB
  clear hS hB hmk hmm
  go_upto_region 3 with (fail)
  clear p0 p1 p2 p3 p4 p5 p6 p7
  go_loopw [17] (fun vi wr => ∃ m:Nat,m≤ts.length∧vi = .int .i64 m∧SchIn wr p mb fb m A c ts o∧Below w.heap.size w wr) (fun vi _=>ts.length - (intOf vi).toNat)
  case atStart=>exact ⟨0,Nat.zero_le _,rfl,HS1.out,hbx⟩
  case round =>
   obtain ⟨m,hm,rfl,hI,hbr⟩:=hrel
   have hwz:=hbr.size
   have HI:=qh hI
   clear hI
   by_cases hlt:m<ts.length
   ·obtain ⟨b5,o5,rfl,hb5,hc5⟩:=(HT.out.1.below hbr).get hlt
    obtain ⟨t0,t1,t2,t3⟩:=Tab.cells4 hc5
    have hsz:=(HS.out.tabs ts[m] (lgm hlt)).name
    have hnew:=numF_new hlt (HOK.out.notyet hlt)
    have HNEW:=qh hnew
    have hwf:(Lit.int .i64 (m:Int)).wf=true:=by (have h1:IntKind.i64.min≤(m:Int):=Int.le_trans (by decide) (Int.natCast_nonneg m);simp [Lit.wf,h1];omega)
    clear hc5 hnew
    go_upto_region 5 with (fail)
    refine abs_world (P:=fun u=>Code.wp _ _ _ _ u) (R:=fun u=>SchIn u p mb fb m (some ⟨b5,o5,none⟩) c ts o∧Blk u wr.heap.size 71 (Tab.cells ts[m]).toArray∧Below w.heap.size w u) ⟨?_,?_,?_⟩ ?_
    ·exact HI.out.next belA
    ·exact Blk.new _ _ _
    ·exact belA
    rintro V ⟨hI,hB,hbV⟩
    have q0:=hB.cell 0
    simp only [Tab.cells,gE3] at q0
    obtain ⟨s0,s8,s9⟩:=Sch.blk hI.blk
    have HI1:=qh hI
    clear t0 t1 t2 t3 hB
    obtain ⟨w2,hrun,hst,hg2⟩:=(MapV.drew hI.nums).store str_keyed Tryz.underlying139 (by unfold maxLen;omega) (str_key hsz) (pe_int hwf)
    have HM2:=qh (hst (numF ts (m + 1)) HNEW.out fun u hu=>numF_old hlt hu)
    have hgV:V.grownBy w2 (some mb):=⟨hg2.os,hg2.tape,hg2.output,hg2.size,hg2.block⟩
    have hb2:=hI.blk.grown hgV (fun e=>hI.nums.neBlk hI.blk (Option.some.inj e).symm)
    have hbw2:Below w.heap.size w w2:=Below.grown hbV hgV hbV.size (fun q e=>by injection e with e;rw [← e];exact hmb)
    have u8:=hb2.cell 8
    simp only [gE3] at u8
    have HB2:=qh hb2
    clear hst hI hb2 s0 s9
    refine wp_region_T (S:=fun u=>u.cell? ⟨p,8,none⟩=some (.map (some mb))∧u.cell? ⟨wr.heap.size,0,none⟩=some (.string ts[m].name)) [7] krA ⟨s8,q0⟩ (fun hHeld => ?_)
    refine tkT 0 hHeld ?_
    refine tkT 1 hHeld ?_
    refine tkT 2 hHeld ?_
    refine tkT 3 hHeld ?_
    refine tkT 4 hHeld ?_
    refine tkT 5 hHeld ?_
    refine tkT 6 hHeld ?_
    refine rzT 7 (fun K hK => ?_)
    go_simp
    refine hK.out _ _ _ ?_
    clear hK K
    refine wpT_done krA ?_ _
    go_wp2_with fail
    go_roundw
    case rel=>exact ⟨m + 1,by omega,by go_num,⟨HB2.out,HM2.out⟩,hbw2⟩
    case measure=>exact meA
   ·have hlt':decide (m<ts.length)=false:=by simpa using hlt
    obtain rfl:m=ts.length:=by omega
    go_wp2_with fail
    go_ret
    exact ⟨⟨p,mb,fb,rfl,HI.out⟩,hbr⟩
open Go.RowKit Go
variable {o:Oth}
theorem tab_holds (p mb fb k:Nat) (A:Option Addr) (c:Nat) (ts:List Tab) (RA:Option Addr) (rc n:Nat) (rt:List RTab) (w:World) (hI:SchIn w p mb fb k A c ts o) (ht:TabsIn w w.heap.size A ts) (hok:CatOk ts) (hR:RTabsIn w w.heap.size RA rt) (hn:rt.length=n) (hsr:SaneR rt) {r:Bool} (hres:pb (RTabsOk ts rt)=r) :
 Calls Tryz.prog 75 #[.pointer (some ⟨p,0,none⟩), .slice RA n rc] w fun e w'=>e = .returned (.bool r)∧Below w.heap.size w w':=by
 subst hn hres
 have h8:ts.length ≤ 8:=hok.len
 obtain ⟨s0,s8,s9⟩:=Sch.blk hI.blk
 by_cases hlen:rt.length=ts.length
 ·have HI:=qh hI
  have HT:=qh ht.1
  have HT2:=qh ht.2
  have HR:=qh hR.1
  have HR2:=qh hR.2
  have HOK:=qh hok
  have HSR:=qh hsr
  have HL:=qh hlen
  rw [hlen]
  clear hI ht hok hR hsr
  go_enter Tryz.func75,Tryz.ntmps75
  go_upto_region 4 with (fail)
  clear s0 s8 s9
  go_loopw [18] (fun vi wr => ∃ m:Nat,m≤ts.length∧vi = .int .i64 m∧Below w.heap.size w wr∧(∀ i (h:i<rt.length) (h':i<ts.length),i<m→RTabOk ts[i].cols rt[i].recs)) (fun vi _=>ts.length - (intOf vi).toNat)
  case atStart=>exact ⟨0,Nat.zero_le _,rfl,by exact belA,fun i _ _ h=>by omega⟩
  case round =>
   obtain ⟨m,hm,rfl,hbr,hdone⟩:=hrel
   have hwz:=hbr.size
   have HDO:=qh hdone
   clear hdone
   by_cases hlt:m<ts.length
   ·have hltr:m<rt.length:=by rw [HL.out];exact hlt
    obtain ⟨s0,_,_⟩:=Sch.blk (HI.out.next hbr).blk
    obtain ⟨b5,o5,rfl,hb5,hc5⟩:=(HT.out.below hbr).get hlt
    obtain ⟨t0,t1,t2,t3⟩:=Tab.cells4 hc5
    obtain ⟨b6,o6,rfl,hb6,hc6⟩:=(HR.out.below hbr).get hltr
    have r0:=hc6 0 _ rfl
    simp only [Nat.mul_one,Nat.add_zero] at r0
    have hcn:=HOK.out.cols hlt
    have hcl:SliceIs w w.heap.size Col.cells 7 ts[m].A ts[m].cols:=(HT2.out ts[m] (lgm hlt)).1
    have hrc:RecsIn w w.heap.size rt[m].A rt[m].recs:=HR2.out rt[m] (lgm hltr)
    have hsan:rt[m].recs.length ≤ 1000000 ∧ ∀ r∈rt[m].recs,r.row.length ≤ 1000000∧r.seq.length ≤ 1000000:=⟨HSR.out.recs _ (lgm hltr),fun r hr=>⟨HSR.out.row _ (lgm hltr) r hr,HSR.out.seq _ (lgm hltr) r hr⟩⟩
    have HCL:=qh (hcl.next hbr)
    have HRC:=qh ((hrc.below hbr).mono hwz)
    have HSAN:=qh hsan
    clear hc5 hc6 hcl hrc hsan
    cases hv:pb (RTabOk ts[m].cols rt[m].recs)
    ·have HV:=qh hv
     have HNO:Hid (¬ RTabsOk ts rt):=qh fun h=>by
      have h1:=pb_true (h.tab m hltr hlt)
      rw [hv] at h1
      cases h1
     clear hv
     go_wp2_with (go_at_call 107;(with_reducible refine (tab_validRecords ts[m].A ts[m].cap ts[m].cols.length ts[m].cols rt[m].A rt[m].cap rt[m].recs.length rt[m].recs _ HCL.out rfl hcn.1 hcn.2 HRC.out rfl HSAN.out.1 HSAN.out.2 HV.out).mono ?_);rintro e w1 ⟨rfl,hb1⟩;have hx1:Below w.heap.size w w1:=below_nextN hbr hb1 hwz)
     go_ret
     exact ⟨ret_bool (pb_false HNO.out).symm,hx1⟩
    ·have HV:=qh hv
     clear hv
     go_wp2_with (go_at_call 107;(with_reducible refine (tab_validRecords ts[m].A ts[m].cap ts[m].cols.length ts[m].cols rt[m].A rt[m].cap rt[m].recs.length rt[m].recs _ HCL.out rfl hcn.1 hcn.2 HRC.out rfl HSAN.out.1 HSAN.out.2 HV.out).mono ?_);rintro e w1 ⟨rfl,hb1⟩;have hx1:Below w.heap.size w w1:=below_nextN hbr hb1 hwz)
     go_roundw
     case rel=>exact ⟨m + 1,by omega,by go_num,hx1,fun i h h' hi=>by
      rcases Nat.lt_or_ge i m with h1|h1
      ·exact HDO.out i h h' h1
      ·obtain rfl:i=m:=by omega
       exact pb_iff.1 HV.out⟩
     case measure=>exact meA
   ·have hlt':decide (m<ts.length)=false:=by simpa using hlt
    have HYES:Hid (RTabsOk ts rt):=qh ⟨HOK.out,HL.out,fun i h h'=>HDO.out i h h' omA⟩
    go_wp2_with fail
    go_ret
    exact ⟨ret_bool (pb_true HYES.out).symm,hbr⟩
 ·have HNO:Hid (¬ RTabsOk ts rt):=qh fun h=>hlen h.len
  have d0:((rt.length:Int) != (ts.length:Int))=true:=by simp;omega
  clear hlen
  go_enter Tryz.func75,Tryz.ntmps75
  go_wp2_with fail
  go_ret
  exact ⟨ret_bool (pb_false HNO.out).symm,by exact belA⟩
theorem idle_TabValid (w:World):CallsD Tryz.prog 74 #[] .returning w fun e u' w'=>e = .returned (.tuple #[])∧u' = .returning∧w'=w:=by
 refine callsD_of_wpS Tryz.func74 rfl fun c₀ cs hu => ?_
 apply wpS_region
 cases c₀
 simp_all [wpOpsS,go_sem,recoverD,Tryz.ntmps74,bodyPostS,results,Tryz.results74]
theorem tab_Valid (A:Option Addr) (c m:Nat) (ts:List Tab) (RA:Option Addr) (rc n:Nat) (rt:List RTab) (w:World) (ht:TabsIn w w.heap.size A ts) (hm:ts.length=m) (hs:SaneCat ts) (hok:CatOk ts) (hcg:CatG w w.heap.size A c ts o) (hR:RTabsIn w w.heap.size RA rt) (hn:rt.length=n) (hsr:SaneR rt) {r:Bool} (hres:pb (RTabsOk ts rt)=r) :
 Calls Tryz.prog 36 #[.agg #[.slice A m c, .slice o.vA 0 o.vc, .slice o.iA o.idx.length o.ic, .slice o.sA o.skt.length o.sc, .slice o.cA o.cch.length o.cc, .slice o.rA o.rel.length o.rc, .slice o.tA o.str.length o.tc, .slice o.bA o.bak.length o.bc], .slice RA n rc] w fun e w'=>e = .returned (.bool r)∧Below w.heap.size w w':=by
 subst hm
 have HT:=qh ht
 have HS:=qh hs
 have HOK:=qh hok
 have HCG:=qh hcg
 have HR:=qh hR
 have HSR:=qh hsr
 have HRES:=qh hres
 clear ht hs hok hcg hR hsr hres
 go_enter_defers Tryz.func36,Tryz.ntmps36
 go_upto_region 2 with (fail)
 refine abs_world (P:=fun u=>Code.wp _ _ _ _ u) (R:=fun u=>Blk u w.heap.size 34 #[.slice A ts.length c, .slice o.vA 0 o.vc, .slice o.iA o.idx.length o.ic, .slice o.sA o.skt.length o.sc, .slice o.cA o.cch.length o.cc, .slice o.rA o.rel.length o.rc, .slice o.tA o.str.length o.tc, .slice o.bA o.bak.length o.bc]∧Below w.heap.size w u) ⟨?_,?_⟩ ?_
 ·exact Blk.new _ _ _
 ·exact belA
 rintro W ⟨hB,hbW⟩
 have hzW:=hB.lt
 have HB:=qh hB
 obtain ⟨p0,p1,p2,p3,p4,p5,p6,p7⟩:=Cat.blkO hB
 clear hB
 go_wp2_with (first
  | (go_at_call 53;(with_reducible refine (HCG.out.prog _ hbW).mono ?_);rintro e w1 ⟨rfl,hb1⟩;have hx1:Below w.heap.size w w1:=below_nextN hbW hb1 hbW.size;clear p0 p1 p2 p3 p4 p5 p6 p7;obtain ⟨p0,p1,p2,p3,p4,p5,p6,p7⟩:=Cat.blkO (HB.out.below hb1 hzW))
  | (go_at_call 54;(with_reducible refine (tab_newSchema A c ts.length ts _ (HT.out.next hx1) rfl HS.out HOK.out).mono ?_);rintro e w2 ⟨⟨p,mb,fb,rfl,hS2⟩,hb2⟩;have hx2:Below w.heap.size w w2:=below_nextN hx1 hb2 hx1.size;have HS2:=qh hS2;clear hS2 p0 p1 p2 p3 p4 p5 p6 p7)
  | (go_at_call 75;(with_reducible refine (tab_holds p mb fb ts.length A c ts RA rc n rt _ HS2.out (HT.out.next hx2) HOK.out (HR.out.next hx2) hn HSR.out HRES.out).mono ?_);rintro e w3 ⟨rfl,hb3⟩;have hx3:Below w.heap.size w w3:=below_nextN hx2 hb3 hx2.size))
 refine leaves_cons (f := 74) (args := #[]) spA (by simp [go_sem]) ?_;refine (idle_TabValid _).mono ?_;rintro e u' w'' ⟨rfl,rfl,rfl⟩;refine ⟨_,results_tmp rfl _ _ _,?_⟩
 exact ⟨rfl,hx3⟩
end Go.Proofs.YtjhnpnhpmdkpcaaGreat
