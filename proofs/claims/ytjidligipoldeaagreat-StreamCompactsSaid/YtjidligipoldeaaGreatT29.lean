/-
  Contracts and plain laws of this seat, part 29.
-/
import Derived.Test.YtjidligipoldeaaGreatT20
import Derived.Test.YtjidligipoldeaaGreatT28
set_option linter.unusedVariables false
set_option linter.unusedSimpArgs false
set_option maxRecDepth 100000
set_option maxHeartbeats 16000000
namespace Go.Proofs.YtjidligipoldeaaGreat
open Go.RowKit
noncomputable def bM(ts:List Tab)(l:List Chg):List (List aG):=l.foldl (fun pl x=>if aV ts x=0 then aQ pl x else pl) (List.replicate ts.length [])
theorem tF(ts:List Tab){l:List Chg}{i:Nat}(hi:i<l.length):bM ts (l.take (i+1))=if aV ts l[i]=0 then aQ (bM ts (l.take i)) l[i] else bM ts (l.take i):=by
 unfold bM
 rw[List.take_succ_eq_append_getElem hi,List.foldl_append]
 rfl
theorem eU.zero(ts:List Tab):eU ts (List.replicate ts.length dY):=by
 refine⟨by simp,fun i hi hi' =>?_⟩
 simp only[List.map_replicate,List.getElem_replicate,aD,dY,List.map_nil]
 exact⟨by simp,fun r hr=>by cases hr⟩
theorem wz(rt:List RTab)(k:Int):(kE rt k).map aA=pq (rt.map aD) k:=by
 unfold kE pq
 rw[List.getElem?_map]
 cases rt[k.toNat]? with
 | none=>rfl
 | some t=>rfl
theorem qE(rt:List RTab)(k:Int)(key:Val):gm (kE rt k) key=dV (pq (rt.map aD) k) key:=by rw[fG,wz]
theorem tX(rt:List RTab)(k:Int):(kE rt k).length=(pq (rt.map aD) k).length:=by rw[←wz,List.length_map]
inductive oM (ts:List Tab):List Chg→List (List aG)→Prop
 | nil:oM ts [] (List.replicate ts.length [])
 | snoc {l:List Chg}{pl:List (List aG)}{x:Chg}{rt:List RTab}(h:oM ts l pl) (hp:rt.map aD=pl) (hc:lv ts rt x=0):oM ts (l ++ [x]) (aQ pl x)
theorem oM.replay{ts:List Tab}{l:List Chg}{pl:List (List aG)}(h:oM ts l pl):bM ts l=pl:=by
 induction h with
 | nil=>rfl
 | snoc h hp hc ih =>
   have hf:=(qi hc).2
   unfold bM at ih ⊢
   rw[List.foldl_append,ih]
   simp[hf]
theorem oM.at_{ts:List Tab}{l:List Chg}{pl:List (List aG)}(h:oM ts l pl):∀i (hi:i<l.length),∃rt:List RTab,rt.map aD=bM ts (l.take i)∧lv ts rt l[i]=0:=by
 induction h with
 | nil=>intro i hi;simp at hi
 | snoc h hp hc ih =>
   rename_i l0 pl0 x rt
   intro i hi
   rcases Nat.lt_or_ge i l0.length with h1|h1
   ·obtain⟨r,h2,h3⟩:=ih i h1
    refine⟨r,?_,?_⟩
    ·rw[h2,List.take_append_of_le_length omA]
    ·rw[List.getElem_append_left h1];exact h3
   ·have he:i=l0.length:=by simp at hi;omega
    subst he
    refine⟨rt,?_,?_⟩
    ·rw[hp,List.take_left',h.replay];rfl
    ·simpa using hc
def qV(P:Int→Prop)(l:List aG):Prop:= ∀r∈l,∀s∈r.2.1,P s
theorem qV.cut{l:List aG}{P:Int→Prop}(h:qV P l)(j:Nat):qV P (iL l j):=fun r hr=>by
 unfold iL at hr
 rcases List.mem_append.1 hr with h1|h1
 ·exact h r (List.mem_of_mem_take h1)
 ·exact h r (List.mem_of_mem_drop h1)
theorem qV.ins{l:List aG}{P:Int→Prop}(h:qV P l){x:aG}(hx:∀s∈x.2.1,P s):qV P (mK l x):=fun r hr=>by
 unfold mK at hr
 rcases List.mem_append.1 hr with h1|h1
 ·rcases List.mem_append.1 h1 with h2|h2
  ·exact h r (List.mem_of_mem_take h2)
  ·rw[List.mem_singleton.1 h2];exact hx
 ·exact h r (List.mem_of_mem_drop h1)
theorem qV.upd{l:List aG}{P:Int→Prop}(h:qV P l)(j:Nat){x:Chg}(hx:P x.seq):qV P (rU l j x):=by
 unfold rU
 split
 ·rename_i r hr
  intro y hy s hs
  rcases List.mem_or_eq_of_mem_set hy with h1|h1
  ·exact h y h1 s hs
  ·subst h1
   rcases List.mem_or_eq_of_mem_set hs with h2|h2
   ·exact h r (List.mem_of_getElem? hr) s h2
   ·rw[h2];exact hx
 ·exact h
theorem qV.new{P:Int→Prop}{x:Chg}(hx:P x.seq):∀s∈(dX x).2.1,P s:=fun s hs=>by
 rw[(List.mem_replicate.1 hs).2];exact hx
theorem qV.sw{l:List aG}{P:Int→Prop}(h:qV P l){x:Chg}(hx:P x.seq):qV P (aW l x):=by
 unfold aW
 split
 ·split
  ·exact(h.cut _).ins (qV.new hx)
  ·split
   ·exact h
   ·exact h.ins (qV.new hx)
 ·split
  ·exact h
  ·split
   ·exact h.upd _ hx
   ·exact h.cut _
structure oL (ts:List Tab) (i:Nat) (q d:Int) (l:List Chg) (pl:List (List aG)):Prop where
 chain:oM ts l pl
 psq:0≤q∧q≤3*i
 pdy:0≤d∧d≤2*i
 bd:∀x∈l,x.seq≤q∧x.day≤d
 ord:l.Pairwise (fun a b=>a.seq<b.seq∧a.day≤b.day)
def Gl(ts:List Tab)(n:Nat)(l:List Chg):Prop:=(∃pl,oM ts l pl)∧(∀x∈l,x.seq≤6*n∧x.day≤4*n)∧l.Pairwise (fun a b=>a.seq<b.seq∧a.day≤b.day)
theorem oL.zero(ts:List Tab):oL ts 0 0 0 [] ((List.replicate ts.length dY).map aD):=by
 refine⟨?_,⟨Int.le_refl _,by simp⟩,⟨Int.le_refl _,by simp⟩,fun x hx=>(by cases hx),List.Pairwise.nil⟩
 rw[List.map_replicate]
 exact oM.nil
theorem oL.skip{ts:List Tab}{i:Nat}{q d:Int}{l:List Chg}{pl:List (List aG)}(h:oL ts i q d l pl){r s:Nat}(hr:r≤2)(hs:s≤2):oL ts (i+1) (q+(1+(r:Int))) (d+(s:Int)) l pl:=by
 have h1:=h.psq
 have h2:=h.pdy
 exact⟨h.chain,⟨by omega,by omega⟩,⟨by omega,by omega⟩,fun x hx=>by have:=h.bd x hx;omega,h.ord⟩
theorem oL.snoc{ts:List Tab}{i:Nat}{q d:Int}{l:List Chg}{rt:List RTab}{pl:List (List aG)}(h:oL ts i q d l (rt.map aD)){r s:Nat}(hr:r≤2)(hs:s≤2){x:Chg}(hp:pl=aQ (rt.map aD) x)(hc:lv ts rt x=0)(hx:x.seq=q+(1+(r:Int)))(hy:x.day=d+(s:Int)):oL ts (i+1) (q+(1+(r:Int))) (d+(s:Int)) (l ++ [x]) pl:=by
 have h1:=h.psq
 have h2:=h.pdy
 subst hp
 refine⟨h.chain.snoc rfl hc,⟨by omega,by omega⟩,⟨by omega,by omega⟩,fun y hy =>?_,List.pairwise_append.2 ⟨h.ord,List.pairwise_singleton _ _,fun a ha b hb =>?_⟩⟩
 ·rcases List.mem_append.1 hy with h3|h3
  ·have:=h.bd y h3;omega
  ·rw[List.mem_singleton.1 h3];omega
 ·have:=h.bd a ha
  rw[List.mem_singleton.1 hb]
  omega
theorem oL.done{ts:List Tab}{i n:Nat}{q d:Int}{l:List Chg}{pl:List (List aG)}(h:oL ts i q d l pl)(hi:i≤2*n):Gl ts n l:=by
 have h1:=h.psq
 have h2:=h.pdy
 exact⟨⟨pl,h.chain⟩,fun x hx=>by have:=h.bd x hx;omega,h.ord⟩
theorem zi(g b B n:Nat)(A:Option Addr)(c m:Nat)(ts:List Tab)(w:World)(hk:aP w g b)(hgB:g<B)(ht:aF w w.heap.size A ts)(hu:gN B A ts)(hm:ts.length=m)(hs:aM ts)(hok:aN ts)(h0:0<ts.length)(hn:n≤1000):
 Calls Tryz.prog 27 #[.pointer (some ⟨g,0,none⟩),.agg #[.slice A m c,.slice none 0 0,.slice none 0 0,.slice none 0 0,.slice none 0 0,.slice none 0 0,.slice none 0 0,.slice none 0 0],.int .i64 n] w fun e w' =>
  ∃A' c' l,e=.returned (.slice A' l.length c')∧l.length≤n∧jM w' w.heap.size A' c' l∧aP w' g b∧w.grownBy w' (some g)∧Gl ts n l:=by
 subst hm
 have hgl:=hk.ltg
 have hbl:=hk.lt
 obtain⟨ic,hic,lL,lK,lJ⟩:=info_parts l7
 obtain⟨n2,hn2⟩:∃n2,2*n=n2:=⟨_,rfl⟩
 have hw2:IntKind.i64.wrap (2*(n:Int))=(n2:Int):=by rw[show 2*(n:Int)=(n2:Int) by omega];exact IntWalk.i64_in _ omA
 have ZF:n2≤2000:=by omega
 have HN2:Hid (n2=2*n):=qh hn2.symm
 have HK:=qh hk
 have HT:=qh ht
 have HU:=qh (hu.mono (B':=g+1) hgB)
 have HS:=qh hs
 have HOK:=qh hok
 clear hk ht hu hs hok hn2
 go_enter Tryz.func27,Tryz.ntmps27
 go_upto_region 1 with (fail)
 refine ah (P:=fun u=>Code.wp _ _ _ _ u) (R:=fun u=>Blk u w.heap.size 33 #[.slice A ts.length c,.slice none 0 0,.slice none 0 0,.slice none 0 0,.slice none 0 0,.slice none 0 0,.slice none 0 0,.slice none 0 0]∧Below w.heap.size w u) ⟨?_,?_⟩ ?_
 ·exact Blk.new _ _ _
 ·exact ai
 rintro W ⟨hC,hbW⟩
 have hzW:=hC.lt
 have hS0:aC W g b W:=⟨HK.out.below hbW,aZ _ brf⟩
 have j3:b<W.heap.size:=by omega
 have iZ:g<W.heap.size:=by omega
 have HC:=qh hC
 have HTW:=qh (HT.out.next hbW)
 obtain⟨p0,p1,p2,p3,p4,p5,p6,p7⟩:=Cat.blk hC
 clear hC
 go_wp2_with fail
 (with_reducible refine(xP A c ts.length ts _ HTW.out rfl HS.out HOK.out).mono ?_)
 rintro e w1 ⟨⟨q,rfl,hq,hrt⟩,hb1⟩
 have hS1:=hS0.below hb1
 have NB:=qh hrt
 clear hrt
 clear p0 p1 p2 p3 p4 p5 p6 p7
 go_wp2_with fail
 go_loopw [7,8,9,10,11] (fun v7 v8 v9 v10 v11 wr =>∃(i:Nat) (RA:Option Addr) (rc:Nat) (rt:List RTab) (LA:Option Addr) (lc:Nat) (l:List Chg) (sq dy:Int),i≤n2∧v11=.int .i64 i∧v9=.int .i64 sq∧v10=.int .i64 dy∧v7=.slice RA ts.length rc∧rt.length=ts.length∧aR wr wr.heap.size RA rt∧RUp (g+1) RA rt∧eU ts rt∧v8=.slice LA l.length lc∧jM wr W.heap.size LA lc l∧l.length≤n∧aC W g b wr∧oL ts i sq dy l (rt.map aD)) (fun _ _ _ _ v11 _=>n2-(intOf v11).toNat)
 case atStart=>exact⟨0,_,_,_,none,0,[],0,0,Nat.zero_le _,rfl,rfl,rfl,rfl,by simp,NB.out,Gr omA _,xe ts,rfl,⟨aj.nil,fun x hx=>by simp at hx,fun x hx=>by simp at hx⟩,Nat.zero_le _,hS1,oL.zero ts⟩
 case round =>
  clear hS1 NB hb1 hq
  obtain⟨i,RA,rc,rt,LA,lc,l,sq,dy,hi,rfl,rfl,rfl,rfl,hrl,hrt,hru,hsh,rfl,hoc,hln,hSr,hhi⟩:=hrel
  have HHI:=qh hhi
  have Zp:=hhi.psq
  have Z6:=hhi.pdy
  clear hhi
  have HRL:=qh hrl
  have HRT:=qh hrt
  have HRU:=qh hru
  have HSH:=qh hsh
  have HOC:=qh hoc
  have HSR:=qh hSr
  have hzr:=hSr.size
  have hgw:w.grownBy W (some g):=aZ _ hbW
  clear hrl hrt hru hsh hoc
  by_cases h1:i<n2
  rotate_left
  ·have h1':decide (i<n2)=false:=by simpa using h1
   have h1i:decide ((i:Int)<(n2:Int))=false:=by simp;omega
   go_wp2_with fail
   go_ret
   exact⟨LA,lc,l,rfl,hln,⟨HOC.out.own.mono omA,fun x hx=>(HOC.out.rows x hx).mono omA,HOC.out.len⟩,HSR.out.tape,au hgw HSR.out.grown,HHI.out.done (by have:=HN2.out;omega)⟩
  have h1':decide (i<n2)=true:=by simpa using h1
  have h1i:decide ((i:Int)<(n2:Int))=true:=by simp;omega
  by_cases h2:l.length<n
  rotate_left
  ·have h2':decide (l.length<n)=false:=by simpa using h2
   have h2i:decide ((l.length:Int)<(n:Int))=false:=by simp;omega
   go_wp2_with fail
   go_ret
   exact⟨LA,lc,l,rfl,hln,⟨HOC.out.own.mono omA,fun x hx=>(HOC.out.rows x hx).mono omA,HOC.out.len⟩,HSR.out.tape,au hgw HSR.out.grown,HHI.out.done (by have:=HN2.out;omega)⟩
  have h2':decide (l.length<n)=true:=by simpa using h2
  have h2i:decide ((l.length:Int)<(n:Int))=true:=by simp;omega
  go_wp2_with fail
  (with_reducible refine(aK g b 3 _ HSR.out.tape omA omA).mono ?_)
  rintro e u1 ⟨r1,rfl,hr1,hk1,hg1⟩
  have HS1:=qh (HSR.out.call hk1 hg1)
  have hr1':r1≤2:=by rcases hr1 with h|h<;>omega
  have Zl:IntKind.i64.wrap (1+(r1:Int))=1+(r1:Int):=IntWalk.i64_in _ omA
  have Zk:IntKind.i64.wrap (sq+(1+(r1:Int)))=sq+(1+(r1:Int)):=IntWalk.i64_in _ omA
  go_wp2_with fail
  (with_reducible refine(aK g b 3 _ HS1.out.tape omA omA).mono ?_)
  rintro e u2 ⟨r2,rfl,hr2,hk2,hg2⟩
  have HS2:=qh (HS1.out.call hk2 hg2)
  have hr2':r2≤2:=by rcases hr2 with h|h<;>omega
  have Zj:IntKind.i64.wrap (dy+(r2:Int))=dy+(r2:Int):=IntWalk.i64_in _ omA
  have NK:Hid (wr.grownBy u2 (some g)):=qh (au hg1 hg2)
  clear hk1 hk2 hg1 hg2
  have hC2:=HS2.out.blk HC.out omA
  obtain⟨p0,p1,p2,p3,p4,p5,p6,p7⟩:=Cat.blk hC2
  clear hC2
  go_wp2_with fail
  (with_reducible refine(vV g b (g+1) A c ts.length ts RA rc ts.length rt _ _ _ HS2.out.tape (Nat.lt_succ_self g) (HT.out.grown HU.out (Nat.lt_succ_self g) (au hgw HS2.out.grown)) HU.out rfl HS.out HOK.out h0 (HRT.out.grown HRU.out (Nat.lt_succ_self g) NK.out) HRU.out HRL.out HSH.out).mono ?_)
  intro e w3 hch
  obtain⟨⟨kd,sq2,dy2,tb,A0,cp,row,key,cl,vl⟩,he,Mg,MK,Fs,hrow,hk3,hg3⟩:=hch
  have Sv:=qh Mg
  have SL:=qh MK
  clear Mg MK
  rw[show (Chg.cells ⟨kd,sq2,dy2,tb,A0,cp,row,key,cl,vl⟩).toArray=#[.int .i64 kd,.int .i64 sq2,.int .i64 dy2,.int .i64 tb,.slice A0 row.length cp,.int .i64 key.kind,.int .i64 key.num,.string key.text,.int .i64 cl,.int .i64 vl.kind,.int .i64 vl.num,.string vl.text] from rfl]at he
  subst he
  simp only at Fs hrow
  have hS3:=HS2.out.call hk3 hg3
  have Q4:=HS2.out.size
  have HG3:Hid (wr.grownBy w3 (some g)):=qh (au NK.out hg3)
  have iV:=qh (hrow.mono (b':=W.heap.size) Q4)
  have HS3:=qh hS3
  have hz3:=hS3.size
  clear p0 p1 p2 p3 p4 p5 p6 p7
  clear hk3 hg3 hrow hS3
  go_upto_region 10 with (fail)
  refine ah (P:=fun u=>Code.wp _ _ _ _ u) (R:=fun u=>Blk u w3.heap.size 52 #[.int .i64 kd,.int .i64 sq2,.int .i64 dy2,.int .i64 tb,.slice A0 row.length cp,.int .i64 key.kind,.int .i64 key.num,.string key.text,.int .i64 cl,.int .i64 vl.kind,.int .i64 vl.num,.string vl.text]∧Below w3.heap.size w3 u) ⟨?_,?_⟩ ?_
  ·exact Blk.new' rfl
  ·exact ai
  rintro w4 ⟨hX4,hb4⟩
  have RV:=hX4.lt
  have hz4:=hb4.size
  have HX4:=qh hX4
  have HS4:=qh (HS3.out.below hb4)
  have hC4:=HS4.out.blk HC.out omA
  obtain⟨p0,p1,p2,p3,p4,p5,p6,p7⟩:=Cat.blk hC4
  obtain⟨⟨q0,q1,q2,q3⟩,q4,⟨q5,q6,q7⟩,q8,q9,q10,q11⟩:=Chg.eF (x:=⟨kd,sq2,dy2,tb,A0,cp,row,key,cl,vl⟩) hX4
  simp only at q0 q1 q2 q3 q4 q5 q6 q7 q8 q9 q10 q11
  have PM:=qh ((HOC.out.kept HG3.out iZ).below hb4)
  have Eo:=qh (iV.out.below hb4 nlr)
  have VQ:Hid (aR w4 w4.heap.size RA rt):=qh ((HRT.out.grown HRU.out (Nat.lt_succ_self g) HG3.out).next hb4)
  obtain⟨z,hz⟩:∃z,lv ts rt ⟨kd,sq2,dy2,tb,A0,cp,row,key,cl,vl⟩=z:=⟨_,rfl⟩
  have HZ:=qh hz
  clear hC4 hX4 hz
  go_wp2_with fail
  (with_reducible refine(AU A c ts.length ts RA rc ts.length rt kd sq2 dy2 tb A0 cp row key cl vl _ (HT.out.grown HU.out (Nat.lt_succ_self g) (au hgw HS4.out.grown)) rfl HS.out HOK.out VQ.out HRL.out (HSH.out.wJ HOK.out) (dM bC Eo.out) omA HZ.out).mono ?_)
  rintro e w5 ⟨⟨A2,c2,m2,rt2,rfl,hzz⟩,hb5⟩
  have hz5:=hb5.size
  have HS5:=qh (HS4.out.below hb5)
  have Cc:=qh (PM.out.below hb5)
  have NC:=qh (Eo.out.below hb5 nlr)
  have hX5:=HX4.out.below hb5 RV
  have HZZ:=qh hzz
  clear p0 p1 p2 p3 p4 p5 p6 p7
  clear q0 q1 q2 q3 q4 q5 q6 q7 q8 q9 q10 q11 hzz
  by_cases hz0:z=0
  ·have hz0':(z == 0)=true:=by rw[hz0];rfl
   obtain⟨rfl,hrl2,TW,TU,TN,Ui⟩:=HZZ.out hz0
   have HHN:=qh (HHI.out.snoc (r:=r1) (s:=r2) hr1' hr2' Ui (by rw[HZ.out];exact hz0) Sv.out SL.out)
   clear Ui
   have YB:=qh hrl2
   have Yx:=qh TW
   have PE:=qh TU
   have Yt:=qh TN
   have HX5:=qh hX5
   obtain⟨⟨q0,q1,q2,q3⟩,q4,⟨q5,q6,q7⟩,q8,q9,q10,q11⟩:=Chg.eF (x:=⟨kd,sq2,dy2,tb,A0,cp,row,key,cl,vl⟩) hX5
   simp only at q0 q1 q2 q3 q4 q5 q6 q7 q8 q9 q10 q11
   clear hrl2 TW TU TN hX5 hz0 HZZ
   go_wp2_with (at_builtin;go_must (refine aO _ rfl (.tmp 54) (.tmp 56) 34 rfl 52 ic _ Chg.cells 12 128 Tryz.underlying34 hic lL lK lJ rfl omA eu iI W.heap.size (.slice LA l.length lc) l rfl (Cc.out.own.alloc _) _ _ _ [(⟨kd,sq2,dy2,tb,A0,cp,row,key,cl,vl⟩:Chg)] rfl rfl (Blk.one (enc:=Chg.cells) (x:=⟨kd,sq2,dy2,tb,A0,cp,row,key,cl,vl⟩) (Blk.new' rfl) spA) smA mxA smA ?_);intro v2 w6 hown6 hg6 j4;obtain⟨LA6,lc6,hv6,_,_⟩:=hown6.form;subst hv6;have PL:=qh ((Cc.out.below (brf.alloc nlr _)).app hg6 hown6 (NC.out.alloc _) Fs);have HS6:=qh ((HS5.out.below (brf.alloc nlr _)).app hg6 Cc.out.own.row j3 iZ);have Yv:Hid (aR w6 w6.heap.size A2 rt2):=qh ((Yx.out.next (brf.alloc nlr _)).FI PE.out (fun q hq=>PM.out.own.lt q hq) hg6);clear hown6)
   go_roundw
   case rel=>exact⟨i+1,A2,c2,rt2,LA6,lc6,l ++ [⟨kd,sq2,dy2,tb,A0,cp,row,key,cl,vl⟩],_,_,by omega,by go_num,rfl,rfl,rfl,YB.out,Yv.out,PE.out.mono omA,Yt.out,by simp,PL.out,by simp;omega,HS6.out,HHN.out⟩
   case measure=>exact meA
  ·have hz0':(z == 0)=false:=by simpa using hz0
   have Yw:=qh (VQ.out.next hb5)
   clear hz0 hX5 HZZ
   go_wp2_with fail
   go_roundw
   case rel=>exact⟨i+1,RA,rc,rt,LA,lc,l,_,_,by omega,by go_num,rfl,rfl,rfl,HRL.out,Yw.out,HRU.out,HSH.out,rfl,Cc.out,hln,HS5.out,HHI.out.skip hr1' hr2'⟩
   case measure=>exact meA
end Go.Proofs.YtjidligipoldeaaGreat
