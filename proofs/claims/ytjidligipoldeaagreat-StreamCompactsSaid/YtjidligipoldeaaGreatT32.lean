/-
  Contracts and plain laws of this seat, part 32.
-/
import Derived.Test.YtjidligipoldeaaGreatT28
import Derived.Test.YtjidligipoldeaaGreatT85
import Derived.Test.YtjidligipoldeaaGreatT31
set_option linter.unusedVariables false
set_option linter.unusedSimpArgs false
set_option maxRecDepth 100000
set_option maxHeartbeats 16000000
namespace Go.Proofs.YtjidligipoldeaaGreat
open Go.RowKit Go
theorem cD{P:Prop}(h:P:=by rw[HKY.out];exact HF2.out):P:=h
theorem cE{P:Prop}(h:P:=by rw[HKY.out];exact HV.out):P:=h
theorem cF{P:Prop}(h:P:=by rw[HKY.out];exact HKK.out):P:=h
theorem cG{P:Prop}(h:P:=by simpa using h1):P:=h
theorem cH{P:Prop}(h:P:=by simpa using h):P:=h
theorem cI{P:Prop}(h:P:=by show _≤rb;omega):P:=h
theorem cJ{P:Prop}(h:P:=by simpa[Value.ownBlock]using hg.symm):P:=h
def Gj(recs:List Rcd):Prop:=aT (recs.map aA)
theorem Gj.row{recs:List Rcd}(h:Gj recs){i:Nat}(hi:i<recs.length):0<recs[i].row.length:=aT.row h (aA recs[i]) (List.mem_map_of_mem (lgm hi))
theorem jY{recs:List Rcd}{i:Nat}(h:i<(recs.map aA).length):ay (recs.map aA)[i]=fZ (recs[i]' cH):=by rw[List.getElem_map];rfl
theorem KR(pr pk:Nat)(A:Option Addr)(c n:Nat)(recs:List Rcd)(key:Val)(i:Nat)(w:World)(hB:Blk w pr 46 #[.slice A n c])(hK:Blk w pk 50 #[.int .i64 key.kind,.int .i64 key.num,.string key.text])(hR:bU w w.heap.size A recs)(hn:recs.length=n)(hn6:n≤1000000)(hi:i<recs.length)(hr0:0<recs[i].row.length)(hrl:recs[i].row.length≤1000000){r:Int}(hc:aU key (fZ recs[i])=r):
 Calls Tryz.prog 161 #[.int .i64 i,.pointer (some ⟨pk,0,none⟩),.pointer (some ⟨pr,0,none⟩)] w fun e w'=>e=.returned (.int .i64 r)∧Below w.heap.size w w':=by
 subst hn
 have hr':0<recs[i].row.length:=hr0
 obtain⟨b7,o7,rfl,hb7,hc7⟩:=hR.1.get hi
 obtain⟨g0,g1,g2⟩:=Rcd.cells3 hc7
 obtain⟨b9,o9,hA9,hb9,hc9⟩:=(hR.2 recs[i] (lgm hi)).1.get hr0
 obtain⟨y0,y1,y2⟩:=Val.cells3 hc9
 rw[hA9]at g0
 rw[uF hr0]at y0 y1 y2
 simp only[Nat.zero_mul,Nat.add_zero]at y0 y1 y2
 have p0:=hB.cell 0
 have k0:=hK.cell 0
 have k1:=hK.cell 1
 have k2:=hK.cell 2
 simp only[gE3]at p0 k0 k1 k2
 have q0:=az (w:=w) pr hB.lt
 have q1:=az (w:=w) pk hK.lt
 have q2:=az (w:=w) b7 omA
 have q3:=az (w:=w) b9 omA
 have HC:=qh hc
 clear hR hB hK hc7 hc9 hA9 hc
 go_enter Tryz.func161,Tryz.ntmps161
 go_wp2_with fail
 refine af krA krA ?_;(repeat(go_big_quiet_step ((go_at_call 135;with_reducible exact bn (xq key (fZ recs[i]) _ HC.out)))));refine wpQuiet_nil ?_;intro wq hq
 go_wp2_with fail
 go_ret
 exact⟨rfl,hq⟩
theorem DI(pr pk:Nat)(A:Option Addr)(c n:Nat)(recs:List Rcd)(key:Val)(w:World)(hB:Blk w pr 46 #[.slice A n c])(hK:Blk w pk 50 #[.int .i64 key.kind,.int .i64 key.num,.string key.text])(hR:bU w w.heap.size A recs)(hn:recs.length=n)(hn6:n≤1000000)(hrl:∀x∈recs,x.row.length≤1000000)(ha:Gj recs)(hv:bT key=true):
 Calls Tryz.prog 160 #[.int .i64 n,.func (.func 161) #[] #[.pointer (some ⟨pk,0,none⟩),.pointer (some ⟨pr,0,none⟩)]] w fun e w'=>e=.returned (.tuple #[.int .i64 (bQ (recs.map aA) key),.bool (dC (recs.map aA) key)])∧Below w.heap.size w w':=by
 subst hn
 have HB:=qh hB
 have HK:=qh hK
 have HR:=qh hR
 have HA:=qh ha
 have HRL:=qh hrl
 have hpl:=hB.lt
 have hkl:=hK.lt
 have Wp:Hid (∀(u:World) (hu:Below w.heap.size w u) (m:Nat) (hm:m<recs.length),Calls Tryz.prog 161 #[.int .i64 m,.pointer (some ⟨pk,0,none⟩),.pointer (some ⟨pr,0,none⟩)] u fun e w'=>e=.returned (.int .i64 (aU key (fZ recs[m])))∧Below u.heap.size u w'):=qh fun u hu m hm =>
  KR pr pk A c recs.length recs key m u (HB.out.below hu hpl) (HK.out.below hu hkl) (HR.out.next hu) rfl hn6 hm (HA.out.row hm) (HRL.out _ (lgm hm)) rfl
 clear hB hK hR ha hrl
 go_enter Tryz.func160,Tryz.ntmps160
 go_wp2_with fail
 go_loopw [4,6] (fun vi vj wr =>∃i j:Nat,i≤j∧j≤recs.length∧vi=.int .i64 i∧vj=.int .i64 j∧Below w.heap.size w wr∧(∀m (h:m<recs.length),m<i→0<aU key (fZ recs[m]))∧(∀m (h:m<recs.length),j≤m→aU key (fZ recs[m])≤0)) (fun vi vj _=>(intOf vj).toNat-(intOf vi).toNat)
 case atStart=>exact⟨0,recs.length,Nat.zero_le _,Nat.le_refl _,rfl,rfl,Below.refl _ _,fun m h hm=>by omega,fun m h hm=>by omega⟩
 case round =>
  obtain⟨i,j,hij,hj,rfl,rfl,hbw,hlo,hhi⟩:=hrel
  have HLO:=qh hlo
  have HHI:=qh hhi
  have hwz:=hbw.size
  clear hlo hhi
  by_cases hlt:i<j
  ·obtain⟨m,hme⟩:∃m:Nat,m=(i+j) / 2:=⟨_,rfl⟩
   have hcast:((i:Int)+(j:Int)) / 2=(m:Int):=by omega
   have hm1:i≤m:=by omega
   have hm2:m<j:=by omega
   have hm:m<recs.length:=by omega
   have HC:=qh hcast
   obtain⟨r,hr⟩:∃r,aU key (fZ recs[m])=r:=⟨_,rfl⟩
   have hcall:=Wp.out _ hbw m hm
   rw[hr]at hcall
   have Hg:=qh hcall
   have HRR:=qh hr
   clear hcast hme hcall hr
   by_cases hcmp:0<r
   ·have U3:decide (0<r)=true:=by simpa using hcmp
    have NJ:Hid (∀k (h:k<recs.length),k<m+1→0<aU key (fZ recs[k])):=qh fun k h hk=>by
     rcases Nat.lt_or_ge k m with h1|h1
     ·rcases Int.lt_or_le 0 (aU key (fZ recs[k])) with h2|h2
      ·exact h2
      ·have h3:=aT.mono HA.out (key:=key) h1 (by simpa using hm) (by rw[jY];exact h2)
       rw[jY,HRR.out]at h3
       omega
     ·obtain rfl:k=m:=by omega
      rw[HRR.out];exact hcmp
    go_upto_region 4 with (fail)
    rw[HC.out]
    go_wp2_with (go_at_call 161;(with_reducible refine Hg.out.mono ?_);rintro e w1 ⟨rfl,hb1⟩)
    go_roundw
    case rel=>exact⟨m+1,j,by omega,hj,by go_num,rfl,aa hbw hb1 hwz,NJ.out,HHI.out⟩
    case measure=>exact meA
   ·have U3:decide (0<r)=false:=by simpa using hcmp
    have NJ:Hid (∀k (h:k<recs.length),m≤k→aU key (fZ recs[k])≤0):=qh fun k h hk=>by
     rcases Nat.lt_or_ge m k with h1|h1
     ·have h3:=aT.mono HA.out (key:=key) h1 cH (by rw[jY,HRR.out];omega)
      rw[jY]at h3
      omega
     ·obtain rfl:k=m:=by omega
      rw[HRR.out];omega
    go_upto_region 4 with (fail)
    rw[HC.out]
    go_wp2_with (go_at_call 161;(with_reducible refine Hg.out.mono ?_);rintro e w1 ⟨rfl,hb1⟩)
    go_roundw
    case rel=>exact⟨i,m,by omega,by omega,rfl,rfl,aa hbw hb1 hwz,HLO.out,NJ.out⟩
    case measure=>exact meA
  ·obtain rfl:i=j:=by omega
   have hP:bQ (recs.map aA) key=i:=qx (by simpa using hj) (fun m h hm=>by rw[jY];exact HLO.out m cH hm) (fun h=>by rw[jY];exact HHI.out i cH nlr)
   have HP:=qh hP
   by_cases hil:i<recs.length
   ·obtain⟨r,hr⟩:∃r,aU key (fZ recs[i])=r:=⟨_,rfl⟩
    have hcall:=Wp.out _ hbw i hil
    rw[hr]at hcall
    have Hg:=qh hcall
    have HF:Hid (dC (recs.map aA) key=(r == 0)):=qh (by
     rw[Bool.eq_iff_iff,iX HA.out hv hP]
     constructor
     ·rintro⟨h1,h2⟩
      rw[jY,hr]at h2
      simpa using h2
     ·intro h1
      exact⟨by simpa using hil,by rw[jY,hr];simpa using h1⟩)
    clear hP hcall hr
    go_wp2_with (go_at_call 161;(with_reducible refine Hg.out.mono ?_);rintro e w1 ⟨rfl,hb1⟩)
    go_ret2
    rw[HP.out,HF.out]
    exact⟨rfl,aa hbw hb1 hwz⟩
   ·have Xx:decide (i<recs.length)=false:=by simpa using hil
    have HF:Hid (dC (recs.map aA) key=false):=qh (by
     rw[Bool.eq_false_iff,ne_eq,iX HA.out hv hP]
     rintro⟨h1,h2⟩
     exact hil cG)
    clear hP
    go_wp2_with fail
    go_ret2
    rw[HP.out,HF.out]
    exact⟨rfl,hbw⟩
theorem xu(A:Option Addr)(c n:Nat)(recs:List Rcd)(key:Val)(w:World)(hR:bU w w.heap.size A recs)(hn:recs.length=n)(hn6:n≤1000000)(hrl:∀x∈recs,x.row.length≤1000000)(ha:Gj recs)(hv:bT key=true){p:Nat}{f:Bool}(hp:bQ (recs.map aA) key=p)(hf:dC (recs.map aA) key=f):
 Calls Tryz.prog 122 #[.slice A n c,.agg #[.int .i64 key.kind,.int .i64 key.num,.string key.text]] w fun e w'=>e=.returned (.tuple #[.int .i64 p,.bool f])∧Below w.heap.size w w':=by
 subst hn hp hf
 have HR:=qh hR
 have HA:=qh ha
 have HRL:=qh hrl
 clear hR ha hrl
 go_enter Tryz.func122,Tryz.ntmps122
 go_upto_region 1 with (fail)
 refine ah (P:=fun u=>Code.wp _ _ _ _ u) (R:=fun u=>Blk u w.heap.size 46 #[.slice A recs.length c]∧Blk u (w.heap.size+1) 50 #[.int .i64 key.kind,.int .i64 key.num,.string key.text]∧Below w.heap.size w u) ⟨?_,?_,?_⟩ ?_
 ·exact(Blk.new _ _ _).alloc _
 ·exact Blk.new' spA
 ·exact ai
 rintro W ⟨hB,hK,hbW⟩
 have p0:=hB.cell 0
 simp only[gE3]at p0
 have HB:=qh hB
 have HK:=qh hK
 clear hB hK
 go_wp2_with (go_at_call 160;(with_reducible refine(DI w.heap.size (w.heap.size+1) A c recs.length recs key _ HB.out HK.out (HR.out.next hbW) rfl hn6 HRL.out HA.out hv).mono ?_);rintro e w1 ⟨rfl,hb1⟩)
 go_ret2
 exact⟨rfl,aa hbW hb1 hbW.size⟩
open Go.RowKit Go
theorem xw(base q n:Nat)(l:List RTab)(kd sq dy:Int)(k:Nat)(A0:Option Addr)(cp:Nat)(row:List Val)(key:Val)(cl:Int)(vl:Val)(w:World)(hO:aj w base 46 RTab.cells 1 (.slice (some ⟨q,0,none⟩) n n) l)(hn:n=l.length)(hT:dB w base l)(hbase:base≤w.heap.size)(hk:k<l.length)(hn6:n≤1000)(hR:ag w w.heap.size Val.cells 3 A0 row)(hrl:row.length≤1000)(h1:kd=1→0<row.length)(hv:bT (keyOf ⟨kd,sq,dy,(k:Int),A0,cp,row,key,cl,vl⟩)=true)(hkk:(keyOf ⟨kd,sq,dy,(k:Int),A0,cp,row,key,cl,vl⟩).kind≠0)(ha:aT (l[k].recs.map aA))(h64:l[k].recs.length≤64)(hrw:∀x∈l[k].recs,x.row.length≤1000000){fd:Bool}(hf:dC (l[k].recs.map aA) (keyOf ⟨kd,sq,dy,(k:Int),A0,cp,row,key,cl,vl⟩)=fd)(hkind:kd=1∨kd=2∨kd=3)(hc:fd=true∨(kd=1∧l[k].recs.length<64))(lg:kd=2→∃col:Nat,cl=(col:Int) ∧ ∀r∈l[k].recs,col<r.row.length∧col<r.seq.length):
 Calls Tryz.prog 78 #[.slice (some ⟨q,0,none⟩) n n,.agg #[.int .i64 kd,.int .i64 sq,.int .i64 dy,.int .i64 k,.slice A0 row.length cp,.int .i64 key.kind,.int .i64 key.num,.string key.text,.int .i64 cl,.int .i64 vl.kind,.int .i64 vl.num,.string vl.text]] w (fun e w'=>e=.returned (.tuple #[])∧jL base q n l (aQ (l.map aD) ⟨kd,sq,dy,(k:Int),A0,cp,row,key,cl,vl⟩) w w'):=by
 have HKD:=qh hkind
 have HCC:=qh hc
 have HCO:=qh lg
 clear hkind hc lg
 obtain⟨ky,hky⟩:∃v,keyOf ⟨kd,sq,dy,(k:Int),A0,cp,row,key,cl,vl⟩=v:=⟨_,rfl⟩
 obtain⟨i,hip⟩:∃i,bQ (l[k].recs.map aA) ky=i:=⟨_,rfl⟩
 have hil:i≤l[k].recs.length:=by
  rw[←hip]
  unfold bQ
  have h:=(List.takeWhile_sublist (l:=l[k].recs.map aA) (fun y=>decide (aU (ay y) ky<0))).length_le
  simpa using h
 have HKY:=qh hky
 rw[hky]at hv hkk hf
 have hL:=hT.recs hk
 have g0:=hO.gq dH hn hk (j:= 0) rfl
 have HRD:=qh hL.read
 have HRW:=qh hrw
 have HA:=qh ha
 have HV:=qh hv
 have HF:=qh hf
 have HIP:=qh hip
 have hql:=hO.lt q rfl
 have hqb:=hO.row q rfl
 have hkn:decide (k<n)=true:=by simp;omega
 have hkn':k<n:=by omega
 have Mj:l[k].recs.length≤1000000:=by omega
 have HN:=qh hn
 obtain⟨⟨TA,tc,recs⟩,hlk⟩:∃t,l[k]=t:=⟨_,rfl⟩
 rw[hlk]at g0
 have HLK:=qh hlk
 have YD:Hid (bU w w.heap.size TA recs):=qh (by have h:=HRD.out;rw[hlk]at h;exact h)
 have Ny:Hid (∀x∈recs,x.row.length≤1000000):=qh (by have h:=HRW.out;rw[hlk]at h;exact h)
 have HA2:Hid (Gj recs):=qh (by have h:=HA.out;rw[hlk]at h;exact h)
 have HF2:Hid (dC (recs.map aA) ky=fd):=qh (by have h:=HF.out;rw[hlk]at h;exact h)
 have Es:Hid (bQ (recs.map aA) ky=i):=qh (by have h:=HIP.out;rw[hlk]at h;exact h)
 rw[hlk]at h64 Mj hil
 simp only[Nat.mul_one,Nat.add_zero]at g0 h64 Mj hil
 have HO:=qh hO
 have HT:=qh hT
 have HR:=qh hR
 have H1:=qh h1
 have HKK:=qh hkk
 clear hky hip hv hf ha hrw hL hO hT hR h1 hkk hlk hn HRD HRW
 go_enter Tryz.func78,Tryz.ntmps78
 go_upto_region 1 with (fail)
 refine ah (P:=fun u=>Code.wp _ _ _ _ u) (R:=fun u=>Blk u w.heap.size 52 (Chg.cells ⟨kd,sq,dy,(k:Int),A0,cp,row,key,cl,vl⟩).toArray∧Below w.heap.size w u) ⟨?_,?_⟩ ?_
 ·exact Blk.new' spA
 ·exact ai
 rintro W ⟨hX,hbW⟩
 have hzX:=hX.lt
 have HX:=qh hX
 obtain⟨⟨q0,q1,q2,q3⟩,q4,⟨q5,q6,q7⟩,q8,q9,q10,q11⟩:=Chg.eF hX
 simp only at q0 q1 q2 q3 q4 q5 q6 q7 q8 q9 q10 q11
 have hzW:=hbW.size
 replace g0:=(hbW.cell (p:=⟨q,_,none⟩) hql).trans g0
 have k1:=az (w:=W) w.heap.size omA
 have k2:=az (w:=W) q omA
 clear hX
 go_upto_region 2 with (fail)
 refine af krA krA ?_;(repeat(go_big_quiet_step ((first
  | (go_at_call 123;with_reducible exact dN (zR ⟨kd,sq,dy,(k:Int),A0,cp,row,key,cl,vl⟩ _ (HR.out.next (aa hbW (cZ.h _) hbW.size)) (show row.length≤1000000 by omega) H1.out HKY.out))
  | (go_at_call 122;with_reducible exact dN (xu TA tc recs.length recs ky _ (YD.out.next (aa hbW (cZ.h _) hbW.size)) rfl Mj Ny.out HA2.out HV.out Es.out HF2.out))))));refine wpQuiet_nil ?_;intro wq hq
 clear k1 k2 q0 q1 q2 q3 q4 q5 q6 q7 q8 q9 q10 q11
 obtain⟨U,rfl⟩:∃U:World,U=wq:=⟨_,rfl⟩
 have hxU:=aa hbW hq hbW.size
 have hzU:=hxU.size
 have hX:=HX.out.below hq hzX
 replace hzX:=hX.lt
 replace HX:=qh hX
 replace g0:=(hq.cell (p:=⟨q,_,none⟩) (show q<W.heap.size by omega)).trans g0
 obtain⟨⟨q0,q1,q2,q3⟩,q4,⟨q5,q6,q7⟩,q8,q9,q10,q11⟩:=Chg.eF hX
 simp only at q0 q1 q2 q3 q4 q5 q6 q7 q8 q9 q10 q11
 replace HO:=qh (HO.out.below hxU nlr)
 replace HT:=qh (HT.out.below hxU nlr)
 clear hX hbW hq
 cases fd
 ·obtain⟨hk1,hlt⟩:kd=1∧l[k].recs.length<64:=by
   rcases HCC.out with h|h
   ·cases h
   ·exact h
  clear HCC HCO HKD
  have hd1:(kd == 1)=true:=by simpa using hk1
  have HK1:=qh hk1
  clear hk1
  have hlt2:recs.length<64:=by
   have h:∀t:RTab,t=⟨TA,tc,recs⟩→t.recs.length<64→recs.length<64:=fun t ht h=>by subst ht;exact h
   exact h _ HLK.out hlt
  have hown:=(HT.out.recs hk).1
  rw[HLK.out]at hown
  simp only at hown
  have HOWN:=qh hown
  clear hown hlt
  go_upto_region 7 with (fail)
  refine aJ (S:=(fun u=>u.cell? ⟨q,k,none⟩=some (.slice TA recs.length tc)∧(u.cell? ⟨w.heap.size,0,none⟩=some (.int .i64 kd)∧u.cell? ⟨w.heap.size,1,none⟩=some (.int .i64 sq)∧u.cell? ⟨w.heap.size,2,none⟩=some (.int .i64 dy)∧u.cell? ⟨w.heap.size,3,none⟩=some (.int .i64 (k:Int)))∧u.cell? ⟨w.heap.size,4,none⟩=some (.slice A0 row.length cp)∧(u.cell? ⟨w.heap.size,5,none⟩=some (.int .i64 key.kind)∧u.cell? ⟨w.heap.size,6,none⟩=some (.int .i64 key.num)∧u.cell? ⟨w.heap.size,7,none⟩=some (.string key.text))∧u.cell? ⟨w.heap.size,8,none⟩=some (.int .i64 cl)∧u.cell? ⟨w.heap.size,9,none⟩=some (.int .i64 vl.kind)∧u.cell? ⟨w.heap.size,10,none⟩=some (.int .i64 vl.num)∧u.cell? ⟨w.heap.size,11,none⟩=some (.string vl.text))) [10] krA ⟨g0,⟨q0,q1,q2,q3⟩,q4,⟨q5,q6,q7⟩,q8,q9,q10,q11⟩ (fun hHeld =>?_)
  refine tkT 0 hHeld ?_
  refine tkT 1 hHeld ?_
  refine tkT 2 hHeld ?_
  refine tkT 3 hHeld ?_
  refine tkT 4 hHeld ?_
  refine tkT 5 hHeld ?_
  refine r1T 6 (fun K hK =>?_)
  go_simp
  (go_at_call 124;(with_reducible refine(ru kd sq dy (k:Int) A0 cp row key cl vl _ (HR.out.next hxU.drew) (H1.out HK1.out) hrl).mono ?_))
  rintro e w5 ⟨⟨r,rfl,hpr,hro⟩,hb5⟩
  have jl:Below U.heap.size U w5:=brf.drew.trans hb5
  have HB5:=qh jl
  have HPR:=qh hpr
  have HRO:=qh hro
  have g5:=(jl.cell (p:=⟨q,k,none⟩) (show q<U.heap.size by omega)).trans g0
  have hX5:=Chg.eF (HX.out.below jl omA)
  have hz5:=jl.size
  clear hb5 hpr hro jl
  go_wp2_with fail
  refine hK.out _ _ _ ⟨g5,hX5⟩ (fun hHeld =>?_)
  clear hK K
  refine r1T 7 (fun K hK =>?_)
  go_simp
  obtain⟨w6,hw6⟩:∃w6:World,w6=w5.alloc (.cells (Rcd.cells r).toArray 66):=⟨_,rfl⟩
  have hb6:Below U.heap.size U w6:=by rw[hw6];exact HB5.out.alloc hz5 _
  have hV:Blk w6 w5.heap.size 66 (Rcd.cells r).toArray:=by rw[hw6];exact Blk.new' rfl
  have hz6:w6.heap.size=w5.heap.size+1:=by rw[hw6];simp
  have Yy:Hid (dA w6 U.heap.size r):=qh (by
   have hb:Below w5.heap.size w5 w6:=by rw[hw6];exact brf.alloc nlr _
   exact⟨HRO.out.1.below hb nlr,HRO.out.2.below hb nlr⟩)
  have g6:=(hb6.cell (p:=⟨q,k,none⟩) (show q<U.heap.size by omega)).trans g0
  have hX6:=Chg.eF (HX.out.below hb6 omA)
  have HB6:=qh hb6
  have HVB:Hid (∀a,TA=some a→w5.heap.size≠a.block):=qh (fun a ha=>by have:=HOWN.out.lt a.block (by rw[ha];rfl);omega)
  have RJ:base≤w6.heap.size:=by omega
  have HVV:=qh hV
  have HW6:=qh hw6
  (first|rw[show (w5.alloc (.cells #[.slice r.A r.row.length r.cap,.slice r.SA r.seq.length r.xJ,.int .i64 r.day] 66))=w6 from hw6.symm]|skip)
  clear hb6 hV hw6
  refine hK.out _ _ _ ⟨g6,hX6⟩ (fun hHeld =>?_)
  clear hK K
  refine r1T 8 (fun K hK =>?_)
  go_simp
  (go_at_call 125;(with_reducible refine(Fg base recs.length tc i w5.heap.size 1 TA recs r _ (HOWN.out.below HB6.out nlr) rfl hil omA HVV.out HVB.out RJ).mono ?_))
  rintro e w7 ⟨A',c',rfl,Df,hg7,IW⟩
  have HG7:=qh hg7
  have NG:=qh Df
  have Y2:=qh IW
  have hOq:=HO.out.below HB6.out nlr
  have hne:∀g,(Value.slice TA recs.length tc).ownBlock=some g→q≠g:=fun g hg e=>hOq.eT (HOWN.out.below HB6.out nlr) nO q rfl (by rw[hg,e])
  have FE:=hOq.kept hg7 (fun g hg e=>hne g e.symm (by injection hg))
  have g7:=FE.gq dH HN.out hk (j:= 0) rfl
  have f7:=FE.kH HN.out k
  rw[HLK.out]at g7
  simp only[Nat.mul_one,Nat.add_zero]at g7
  have Vh:Blk w7 w.heap.size 52 (Chg.cells ⟨kd,sq,dy,(k:Int),A0,cp,row,key,cl,vl⟩).toArray:=(HX.out.below HB6.out omA).grown hg7 (fun e=>(HOWN.out.below HB6.out nlr).aY (HX.out.below HB6.out omA) (by decide) w.heap.size e.symm rfl)
  have hX7:=Chg.eF Vh
  clear Df hg7 IW hOq hne FE Vh
  go_wp2_with fail
  refine hK.out _ _ _ ⟨g7,hX7⟩ (fun hHeld =>?_)
  clear hK K
  refine tkT 9 hHeld ?_
  refine rzT 10 (fun K hK =>?_)
  go_simp
  refine hK.out _ _ _ ?_
  clear hK K
  refine aI krA ?_ _
  clear hHeld g7 f7 hX7 g6 hX6 g5 hX5
  have uG:jL base q n l (aQ (l.map aD) ⟨kd,sq,dy,(k:Int),A0,cp,row,key,cl,vl⟩) w (w7.setCell ⟨q,k,none⟩ (.slice A' (recs.length+1) c')):=by
   have h:=K6 (A3:=A') (c3:=c') (i:=i) (r:=r) (v7:=w7) (x:=⟨kd,sq,dy,(k:Int),A0,cp,row,key,cl,vl⟩) hbase HO.out HN.out HT.out hk hxU HB6.out Yy.out (by rw[HLK.out];exact HG7.out) (by rw[HLK.out];exact NG.out) (by rw[HLK.out];exact Y2.out) rfl (by
    rw[HLK.out]
    show (recs.take i++r::recs.drop i).map aA=aW (recs.map aA) _
    rw[rF HA2.out HK1.out cE cD (by simpa using hlt2),HKY.out,Es.out]
    simp[List.map_take,List.map_drop,HPR.out])
   rw[HLK.out]at h
   exact h
  have dK:=qh uG
  clear uG
  go_wp2_with fail
  first|go_end0|(refine bodyPost_ret (results_none rfl _ _ _) rfl ?_)
  exact⟨rfl,dK.out⟩
 ·clear HCC
  rcases HKD.out with hk1|hk2|hk3
  ·clear HKD HCO
   have hd1:(kd == 1)=true:=by simpa using hk1
   have HK1:=qh hk1
   clear hk1
   have hilt:i<recs.length:=by
    have h:=HF2.out
    unfold dC at h
    rw[Es.out]at h
    rcases Nat.lt_or_ge i recs.length with h1|h1
    ·exact h1
    ·rw[List.getElem?_eq_none cG]at h
     cases h
   have hown:=(HT.out.recs hk).1
   rw[HLK.out]at hown
   obtain⟨g,hg⟩:=gP hown (Nat.lt_of_le_of_lt (Nat.zero_le _) hilt)
   simp only at hg
   subst hg
   have HOWN:=qh hown
   have hgl:=hown.lt g rfl
   have hgb:=hown.row g rfl
   have Xw:decide (i<recs.length)=true:=by simpa using hilt
   clear hown
   go_upto_region 6 with (fail)
   refine aJ (S:=(fun u=>u.cell? ⟨q,k,none⟩=some (.slice (some ⟨g,0,none⟩) recs.length tc)∧(u.cell? ⟨w.heap.size,0,none⟩=some (.int .i64 kd)∧u.cell? ⟨w.heap.size,1,none⟩=some (.int .i64 sq)∧u.cell? ⟨w.heap.size,2,none⟩=some (.int .i64 dy)∧u.cell? ⟨w.heap.size,3,none⟩=some (.int .i64 (k:Int)))∧u.cell? ⟨w.heap.size,4,none⟩=some (.slice A0 row.length cp)∧(u.cell? ⟨w.heap.size,5,none⟩=some (.int .i64 key.kind)∧u.cell? ⟨w.heap.size,6,none⟩=some (.int .i64 key.num)∧u.cell? ⟨w.heap.size,7,none⟩=some (.string key.text))∧u.cell? ⟨w.heap.size,8,none⟩=some (.int .i64 cl)∧u.cell? ⟨w.heap.size,9,none⟩=some (.int .i64 vl.kind)∧u.cell? ⟨w.heap.size,10,none⟩=some (.int .i64 vl.num)∧u.cell? ⟨w.heap.size,11,none⟩=some (.string vl.text))) [7] krA ⟨g0,⟨q0,q1,q2,q3⟩,q4,⟨q5,q6,q7⟩,q8,q9,q10,q11⟩ (fun hHeld =>?_)
   refine tkT 0 hHeld ?_
   refine tkT 1 hHeld ?_
   refine tkT 2 hHeld ?_
   refine tkT 3 hHeld ?_
   refine tkT 4 hHeld ?_
   refine r1T 5 (fun K hK =>?_)
   go_simp
   (go_at_call 124;(with_reducible refine(ru kd sq dy (k:Int) A0 cp row key cl vl _ (HR.out.next hxU.drew) (H1.out HK1.out) hrl).mono ?_))
   rintro e w5 ⟨⟨r,rfl,hpr,hro⟩,hb5⟩
   have jl:Below U.heap.size U w5:=brf.drew.trans hb5
   have HB5:=qh jl
   have HPR:=qh hpr
   have HRO:=qh hro
   have g5:=(jl.cell (p:=⟨q,k,none⟩) (show q<U.heap.size by omega)).trans g0
   have hX5:=Chg.eF (HX.out.below jl omA)
   have hz5:=jl.size
   have hO5:=HOWN.out.below jl nlr
   have d0:=hO5.gq bG rfl hilt (j:= 0) rfl
   have d1:=hO5.gq bG rfl hilt (j:= 1) rfl
   have d2:=hO5.gq bG rfl hilt (j:= 2) rfl
   have f0:=hO5.kH rfl (i*3)
   have f1:=hO5.kH rfl (i*3+1)
   have f2:=hO5.kH rfl (i*3+2)
   simp only[Nat.add_zero]at d0 d1 d2
   clear hb5 hpr hro jl hO5
   go_wp2_with fail
   refine hK.out _ _ _ ⟨g5,hX5⟩ (fun hHeld =>?_)
   clear hK K
   refine tkT 6 hHeld ?_
   refine rzT 7 (fun K hK =>?_)
   go_simp
   refine hK.out _ _ _ ?_
   clear hK K
   refine aI krA ?_ _
   clear hHeld d0 d1 d2 f0 f1 f2 g5 hX5
   have uG:jL base q n l (aQ (l.map aD) ⟨kd,sq,dy,(k:Int),A0,cp,row,key,cl,vl⟩) w (((w5.setCell ⟨g,i*3,none⟩ (.slice r.A r.row.length r.cap)).setCell ⟨g,i*3+1,none⟩ (.slice r.SA r.seq.length r.xJ)).setCell ⟨g,i*3+2,none⟩ (.int .i64 r.day)):=by
    refine K4 hbase HO.out HN.out HT.out hk hxU HB5.out HRO.out (by rw[HLK.out]) (by rw[HLK.out];exact hilt) rfl ?_
    rw[HLK.out]
    show (recs.set i r).map aA=aW (recs.map aA) _
    rw[rE HA2.out HK1.out cE cF cD,HKY.out,Es.out,List.map_set,HPR.out]
   have dK:=qh uG
   clear uG
   go_wp2_with fail
   first|go_end0|(refine bodyPost_ret (results_none rfl _ _ _) rfl ?_)
   exact⟨rfl,dK.out⟩
  ·clear HKD
   obtain⟨col,hcl,lg⟩:=HCO.out hk2
   have HCL:=qh hcl
   have Gp:=qh lg
   have hd1:(kd == 1)=false:=by rw[hk2];rfl
   have hd2:(kd == 2)=true:=by simpa using hk2
   have HK2:=qh hk2
   clear hk2 lg hcl HCO
   have hilt:i<recs.length:=by
    have h:=HF2.out
    unfold dC at h
    rw[Es.out]at h
    rcases Nat.lt_or_ge i recs.length with h1|h1
    ·exact h1
    ·rw[List.getElem?_eq_none cG]at h
     cases h
   have Xw:decide (i<recs.length)=true:=by simpa using hilt
   have hro:=HT.out.recs hk
   rw[HLK.out]at hro
   obtain⟨g,hg⟩:=gP hro.1 (Nat.lt_of_le_of_lt (Nat.zero_le _) hilt)
   simp only at hg
   subst hg
   have hcj:col<recs[i].row.length∧col<recs[i].seq.length:=by
    have h:∀t:RTab,t=⟨some ⟨g,0,none⟩,tc,recs⟩→(∀r∈t.recs,col<r.row.length∧col<r.seq.length)→col<recs[i].row.length∧col<recs[i].seq.length:=fun t ht h=>by subst ht;exact h _ (lgm hilt)
    exact h _ HLK.out Gp.out
   have hrow:=hro.2 recs[i] (lgm hilt)
   have d0:=hro.1.gq bG rfl hilt (j:= 0) rfl
   have d1:=hro.1.gq bG rfl hilt (j:= 1) rfl
   have hgl:g<U.heap.size:=hro.1.lt g rfl
   have hgb:base≤g:=hro.1.row g rfl
   obtain⟨⟨QA,qc,fM,QS,qs,su,qd⟩,hqr⟩:∃x:Rcd,recs[i]=x:=⟨_,rfl⟩
   rw[hqr]at hcj hrow d0 d1
   simp only[Nat.add_zero]at hcj hrow d0 d1
   obtain⟨hc1,hc2⟩:=hcj
   have fD:=hrow.1
   have hrow2:=hrow.2
   simp only at fD hrow2
   obtain⟨rb,rfl⟩:=gP fD (Nat.lt_of_le_of_lt (Nat.zero_le _) hc1)
   obtain⟨sb,rfl⟩:=gP hrow2 (Nat.lt_of_le_of_lt (Nat.zero_le _) hc2)
   have WZ:base≤rb:=fD.row rb rfl
   have TR:base≤sb:=hrow2.row sb rfl
   have WY:rb<U.heap.size:=fD.lt rb rfl
   have WV:sb<U.heap.size:=hrow2.lt sb rfl
   have hn1:rb≠g:=fun e=>hro.1.eT fD AA g rfl (by rw[←e];rfl)
   have hn3:rb≠sb:=fun e=>fD.eT hrow2 (by decide) rb rfl (by rw[←e];rfl)
   have hn4:rb≠w.heap.size:=fun e=>fD.aY HX.out (by decide) rb rfl e
   have hn5:rb≠q:=fun e=>HO.out.eT fD Ey q rfl (by rw[←e];rfl)
   have hc1':decide (col<fM.length)=true:=by simpa using hc1
   have hc2':decide (col<su.length)=true:=by simpa using hc2
   have r0:=fD.gq bC rfl hc1 (j:= 0) rfl
   have r1:=fD.gq bC rfl hc1 (j:= 1) rfl
   have r2:=fD.gq bC rfl hc1 (j:= 2) rfl
   have fr0:=fD.kH rfl (col*3)
   have fr1:=fD.kH rfl (col*3+1)
   have fr2:=fD.kH rfl (col*3+2)
   have s0:=hrow2.gq bE rfl hc2 (j:= 0) rfl
   simp only[Nat.add_zero,Nat.mul_one]at r0 r1 r2 s0
   have Nz:=qh fD
   have Ny:=qh hrow2
   have HQR:=qh hqr
   clear hro hrow fD hrow2 hqr Gp
   rw[HCL.out]at q8
   go_upto_region 9 with (fail)
   refine aJ (S:=(fun u=>u.cell? ⟨q,k,none⟩=some (.slice (some ⟨g,0,none⟩) recs.length tc)∧u.cell? ⟨w.heap.size,8,none⟩=some (.int .i64 (col:Int))∧u.cell? ⟨w.heap.size,9,none⟩=some (.int .i64 vl.kind)∧u.cell? ⟨w.heap.size,10,none⟩=some (.int .i64 vl.num)∧u.cell? ⟨w.heap.size,11,none⟩=some (.string vl.text)∧u.cell? ⟨g,i*3,none⟩=some (.slice (some ⟨rb,0,none⟩) fM.length qc))) [12] krA ⟨g0,q8,q9,q10,q11,d0⟩ (fun hHeld =>?_)
   refine tkT 0 hHeld ?_
   refine tkT 1 hHeld ?_
   refine tkT 2 hHeld ?_
   refine tkT 3 hHeld ?_
   refine tkT 4 hHeld ?_
   refine tkT 5 hHeld ?_
   refine tkT 6 hHeld ?_
   refine tkT 7 hHeld ?_
   refine tkT 8 hHeld ?_
   refine tkT 9 hHeld ?_
   refine tkT 10 hHeld ?_
   refine tkT 11 hHeld ?_
   refine rzT 12 (fun K hK =>?_)
   go_simp
   refine hK.out _ _ _ ?_
   clear hK K
   refine aI krA ?_ _
   clear hHeld
   have g0':=fu (u1:= .int .i64 vl.kind) (u2:= .int .i64 vl.num) (u3:= .string vl.text) (p1:=⟨rb,col*3,none⟩) (p2:=⟨rb,col*3+1,none⟩) (p3:=⟨rb,col*3+2,none⟩) g0 hn5 hn5 hn5
   have q8':=fu (u1:= .int .i64 vl.kind) (u2:= .int .i64 vl.num) (u3:= .string vl.text) (p1:=⟨rb,col*3,none⟩) (p2:=⟨rb,col*3+1,none⟩) (p3:=⟨rb,col*3+2,none⟩) q8 hn4 hn4 hn4
   have q1':=fu (u1:= .int .i64 vl.kind) (u2:= .int .i64 vl.num) (u3:= .string vl.text) (p1:=⟨rb,col*3,none⟩) (p2:=⟨rb,col*3+1,none⟩) (p3:=⟨rb,col*3+2,none⟩) q1 hn4 hn4 hn4
   have d1':=fu (u1:= .int .i64 vl.kind) (u2:= .int .i64 vl.num) (u3:= .string vl.text) (p1:=⟨rb,col*3,none⟩) (p2:=⟨rb,col*3+1,none⟩) (p3:=⟨rb,col*3+2,none⟩) d1 hn1 hn1 hn1
   have s0':=fu (u1:= .int .i64 vl.kind) (u2:= .int .i64 vl.num) (u3:= .string vl.text) (p1:=⟨rb,col*3,none⟩) (p2:=⟨rb,col*3+1,none⟩) (p3:=⟨rb,col*3+2,none⟩) s0 hn3 hn3 hn3
   have hP1:=CP Nz.out rfl hc1 vl
   obtain⟨vs,hvs⟩:=Nz.out.typ (q:=rb) rfl
   have hP2:=((Ny.out.jy (i:=col*3) hvs (by decide) (.int .i64 vl.kind)).far (p:=⟨rb,col*3+1,none⟩) (fun g hg e=>hn3 (e.symm.trans cJ)) (.int .i64 vl.num)).far (p:=⟨rb,col*3+2,none⟩) (fun g hg e=>hn3 (e.symm.trans cJ)) (.string vl.text)
   obtain⟨U1,hU1⟩:∃U1,((U.setCell ⟨rb,col*3,none⟩ (.int .i64 vl.kind)).setCell ⟨rb,col*3+1,none⟩ (.int .i64 vl.num)).setCell ⟨rb,col*3+2,none⟩ (.string vl.text)=U1:=⟨_,rfl⟩
   rw[hU1]at hP1 hP2 g0' q8' q1' d1' s0'
   have hfr:=hP2.kH rfl col
   have Dk:∀g,g≠rb→U1.heap[g]?=U.heap[g]?:= fun g hg=>by
    rw[←hU1,Below.heap_setCell _ _ _ _ hg,Below.heap_setCell _ _ _ _ hg,Below.heap_setCell _ _ _ _ hg]
   have MS:Below base w U1:=by
    rw[←hU1]
    exact(((hxU.mono hbase).setCell cI _).setCell cI _).setCell cI _
   have HP1:=qh hP1
   have HP2:=qh hP2
   have SK:=qh Dk
   have SV:=qh MS
   clear hP1 hP2 hvs Dk MS g0 q8 q1 d1 s0 d0 r0 r1 r2 fr0 fr1 fr2
   go_upto_region 10 with (fail)
   rw[hU1]
   clear hU1
   refine aJ (S:=(fun u=>u.cell? ⟨q,k,none⟩=some (.slice (some ⟨g,0,none⟩) recs.length tc)∧u.cell? ⟨w.heap.size,8,none⟩=some (.int .i64 (col:Int))∧u.cell? ⟨w.heap.size,1,none⟩=some (.int .i64 sq)∧u.cell? ⟨g,i*3+1,none⟩=some (.slice (some ⟨sb,0,none⟩) su.length qs))) [12] krA ⟨g0',q8',q1',d1'⟩ (fun hHeld =>?_)
   refine tkT 0 hHeld ?_
   refine tkT 1 hHeld ?_
   refine tkT 2 hHeld ?_
   refine tkT 3 hHeld ?_
   refine tkT 4 hHeld ?_
   refine tkT 5 hHeld ?_
   refine tkT 6 hHeld ?_
   refine tkT 7 hHeld ?_
   refine tkT 8 hHeld ?_
   refine tkT 9 hHeld ?_
   refine tkT 10 hHeld ?_
   refine tkT 11 hHeld ?_
   refine rzT 12 (fun K hK =>?_)
   go_simp
   refine hK.out _ _ _ ?_
   clear hK K
   refine aI krA ?_ _
   clear hHeld
   obtain⟨is,his⟩:=HP2.out.typ (q:=sb) rfl
   have hP3:=HP2.out.gV bE rfl hc2 sq (j:= 0) (o:=col) (u:= .int .i64 sq) omA omA rfl
   have hP4:=HP1.out.jy (i:=col) his (by decide) (.int .i64 sq)
   have uG:jL base q n l (aQ (l.map aD) ⟨kd,sq,dy,(k:Int),A0,cp,row,key,cl,vl⟩) w (U1.setCell ⟨sb,col,none⟩ (.int .i64 sq)):=by
    have hjk:i<l[k].recs.length:=by rw[HLK.out];exact hilt
    have hrj:l[k].recs[i]=⟨some ⟨rb,0,none⟩,qc,fM,some ⟨sb,0,none⟩,qs,su,qd⟩:=by
     have h:∀t:RTab,t=⟨some ⟨g,0,none⟩,tc,recs⟩→∀h:i<t.recs.length,t.recs[i]=recs[i]:=fun t ht h=>by subst ht;rfl
     rw[h _ HLK.out hjk]
     exact HQR.out
    refine K3 (U:=U) hbase HO.out HN.out HT.out hk hxU (SV.out.setCell TR _) hjk (r':=⟨some ⟨rb,0,none⟩,qc,fM.set col vl,some ⟨sb,0,none⟩,qs,su.set col sq,qd⟩) ?_ ?_ ?_ ⟨?_,?_⟩ ?_ rfl ?_
    ·rw[hrj]
     simp[Rcd.cells]
    ·rw[hrj]
    ·rw[hrj]
    ·simpa using hP4
    ·simpa using hP3
    ·rw[hrj]
     intro g h1 h2
     have h2':g≠sb:=h2 ⟨sb,0,none⟩ rfl
     rw[Below.heap_setCell _ ⟨sb,col,none⟩ _ g h2']
     exact SK.out g (h1 _ rfl)
    ·have h:=Cm hilt HQR.out (x:=⟨kd,sq,dy,(k:Int),A0,cp,row,key,cl,vl⟩) HCL.out (A':=some ⟨rb,0,none⟩) (S':=some ⟨sb,0,none⟩) (c':=qc) (s':=qs)
     have h2:∀t:RTab,t=⟨some ⟨g,0,none⟩,tc,recs⟩→t.recs=recs:=fun t ht=>by subst ht;rfl
     rw[h2 _ HLK.out,tZ HA2.out HK2.out cE cF cD,HKY.out,Es.out]
     exact h
   have dK:=qh uG
   clear uG hP3 hP4 his
   go_wp2_with fail
   first|go_end0|(refine bodyPost_ret (results_none rfl _ _ _) rfl ?_)
   first|exact⟨rfl,dK.out⟩|exact⟨rfl,dK.out.drew⟩|exact⟨rfl,dK.out.drew.drew⟩
  ·clear HKD HCO
   have hd1:(kd == 1)=false:=by rw[hk3];rfl
   have hd2:(kd == 2)=false:=by rw[hk3];rfl
   have hd3:(kd == 3)=true:=by simpa using hk3
   have HK3:=qh hk3
   clear hk3
   have hilt:i<recs.length:=by
    have h:=HF2.out
    unfold dC at h
    rw[Es.out]at h
    rcases Nat.lt_or_ge i recs.length with h1|h1
    ·exact h1
    ·rw[List.getElem?_eq_none cG]at h
     cases h
   have hown:=(HT.out.recs hk).1
   rw[HLK.out]at hown
   obtain⟨g,hg⟩:=gP hown (Nat.lt_of_le_of_lt (Nat.zero_le _) hilt)
   simp only at hg
   subst hg
   have HOWN:=qh hown
   have hwr:IntKind.i64.wrap ((i:Int)+1)=(i:Int)+1:=IntWalk.i64_in _ omA
   clear hown
   go_wp2_with (go_at_call 105;(with_reducible refine(FK base g tc recs.length i recs _ HOWN.out rfl hilt omA).mono ?_);rintro e w7 ⟨rfl,Df,hg7⟩;have HG7:=qh hg7;have NG:=qh Df;have HNE:Hid (∀g',(Value.slice (some ⟨q,0,none⟩) n n).ownBlock=some g'→some g'≠(Value.slice (some ⟨g,0,none⟩) recs.length tc).ownBlock):=qh (HO.out.eT HOWN.out nO);have FE:=HO.out.kept hg7 HNE.out;have g7:=FE.gq dH HN.out hk (j:= 0) rfl;have f7:=FE.kH HN.out k;rw[HLK.out]at g7;simp only[Nat.mul_one,Nat.add_zero]at g7;clear Df hg7 FE g0 q0 q1 q2 q3 q4 q5 q6 q7 q8 q9 q10 q11)
   have uG:jL base q n l (aQ (l.map aD) ⟨kd,sq,dy,(k:Int),A0,cp,row,key,cl,vl⟩) w (w7.setCell ⟨q,k,none⟩ (.slice (some ⟨g,0,none⟩) (recs.length-1) tc)):=by
    refine K7 (A3:=some ⟨g,0,none⟩) (c3:=tc) (i:=i) (v7:=w7) (x:=⟨kd,sq,dy,(k:Int),A0,cp,row,key,cl,vl⟩) hbase HO.out HN.out HT.out hk hxU (by rw[HLK.out];exact HG7.out) (by rw[HLK.out];exact NG.out) (by rw[HLK.out];simp only[List.length_append,List.length_take,List.length_drop];omega) (by rw[HLK.out];exact fun a ha =>.inl (by injection ha with ha;rw[←ha];rfl)) rfl ?_
    rw[HLK.out]
    show (recs.take i++recs.drop (i+1)).map aA=aW (recs.map aA) _
    rw[uf HA2.out HK3.out cE cF cD,HKY.out,Es.out]
    simp[iL,List.map_take,List.map_drop]
   have dK:=qh uG
   clear uG
   first|go_end0|(refine bodyPost_ret (results_none rfl _ _ _) rfl ?_)
   exact⟨rfl,dK.out⟩
theorem pU{ts:List Tab}{x:Chg}{k:Nat}(h:jN ts x k)(hk:k<ts.length)(h1:x.kind=1):x.row.length=ts[k].ae.length:=by
 have:=h.ins h1
 rwa [cB hk]at this
end Go.Proofs.YtjidligipoldeaaGreat
