/-
  Contracts and plain laws of this seat, part 34: PosP, Wrote.
-/
import Derived.Test.YtkiglflbngfelaaGreatPSup
import Derived.Test.YtkiglflbngfelaaGreatP33
import Derived.Test.YtkiglflbngfelaaGreatQ25
import Derived.Test.YtkiglflbngfelaaGreatP30
import Derived.Test.YtkiglflbngfelaaGreatQ7
set_option linter.unusedVariables false
set_option linter.unusedSimpArgs false
set_option maxRecDepth 100000
set_option maxHeartbeats 16000000
namespace Go.Proofs.YtkiglflbngfelaaGreat
open Go.RowKit
theorem cutP_sub (l:List bB) (j:Nat):(iW l j).Sublist l:=by
 have h1:(l.drop (j + 1)).Sublist (l.drop j):=by rw [← List.drop_drop];exact List.drop_sublist _ _
 have h2:=(List.Sublist.refl (l.take j)).append h1
 rwa [List.take_append_drop] at h2
theorem updP_key {x:Chg} {c:Nat} (hx:x.column=(c:Int)) (hc : 0<c) (a:bB):aJ (a.1.set x.column.toNat x.val,a.2.1.set x.column.toNat x.seq,a.2.2)=aJ a:=by
 obtain ⟨a,b,d⟩:=a
 rw [hx,Int.toNat_natCast]
 unfold aJ
 cases a with
 | nil=>rfl
 | cons u us=>rw [show c=(c - 1) + 1 by omega];rfl
def Writes (x:Chg) (i m:Nat) (k:Val):Prop:=x.table=(i:Int)∧x.kind ≠ 3∧(x.kind = 1→keyOf x=k)∧(x.kind = 2→x.key=k∧x.column=(m:Int))
def valW (x:Chg) (m:Nat):Val:=if x.kind = 1 then x.row.getD m ⟨0,0,⟨#[]⟩⟩ else x.val
structure WroteOk (l:List Chg) (i m:Nat) (r:bB):Prop where
 le : ∀ x∈l,Writes x i m (aJ r)→x.seq≤r.2.1.getD m 0
 ex : ∃ x∈l,Writes x i m (aJ r)∧x.seq=r.2.1.getD m 0∧valW x m=r.1.getD m ⟨0,0,⟨#[]⟩⟩
theorem WroteOk.skip {l:List Chg} {i m:Nat} {r:bB} {x:Chg} (h:WroteOk l i m r) (hx : ¬ Writes x i m (aJ r)):WroteOk (l ++ [x]) i m r:=by
 refine ⟨fun y hy hw => ?_,?_⟩
 ·rcases List.mem_append.1 hy with h1|h1
  ·exact h.le y h1 hw
  ·rw [List.mem_singleton.1 h1] at hw
   exact absurd hw hx
 ·obtain ⟨y,hy,h2⟩:=h.ex
  exact ⟨y,List.mem_append_left _ hy,h2⟩
theorem WroteOk.last {l:List Chg} {i m:Nat} {r:bB} {x:Chg} (ho : ∀ y∈l,y.seq<x.seq) (hw:Writes x i m (aJ r)) (hs:r.2.1.getD m 0=x.seq) (hv:r.1.getD m ⟨0,0,⟨#[]⟩⟩=valW x m):WroteOk (l ++ [x]) i m r:=by
 refine ⟨fun y hy _ => ?_,⟨x,List.mem_append_right _ (List.mem_singleton.2 rfl),hw,hs.symm,hv.symm⟩⟩
 rw [hs]
 rcases List.mem_append.1 hy with h1|h1
 ·have:=ho y h1;omega
 ·rw [List.mem_singleton.1 h1];exact Int.le_refl _
theorem WroteOk.same {l:List Chg} {i m:Nat} {r r':bB} (h:WroteOk l i m r) (hh:aJ r'=aJ r) (h1:r'.2.1.getD m 0=r.2.1.getD m 0) (h2:r'.1.getD m ⟨0,0,⟨#[]⟩⟩=r.1.getD m ⟨0,0,⟨#[]⟩⟩):WroteOk l i m r' :=
 ⟨fun x hx hw=>by rw [h1];exact h.le x hx (by rw [← hh];exact hw),by obtain ⟨x,hx,a,b,c⟩:=h.ex;exact ⟨x,hx,by rw [hh];exact a,by rw [h1];exact b,by rw [h2];exact c⟩⟩
theorem lost_key {l:List bB} (h:fT l) {key:Val} (hv:bM key=true) (hk:key.kind ≠ 0) (hf:df l key=false) : ∀ r∈l,aJ r≠key:=fun r hr e=>by
 have h1:=yM h hv hf
 unfold dS at h1
 rw [if_pos (by rw [hv];simpa using hk)] at h1
 have h2:=EB h1 r hr
 rw [decide_eq_false_iff_not,vD (h.row r hr)] at h2
 exact h2 e
theorem key_apart {l:List bB} (h:fT l) {i j:Nat} (hi:i<l.length) (hj:j<l.length) (hne:i≠j):aJ l[i]≠aJ l[j]:=fun e=>by
 rcases Nat.lt_or_gt_of_ne hne with h1|h1
 ·have h2:=List.pairwise_iff_getElem.1 h.asc i j hi hj h1
  rw [e,bN.refl] at h2
  omega
 ·have h2:=List.pairwise_iff_getElem.1 h.asc j i hj hi h1
  rw [e,bN.refl] at h2
  omega
theorem getD_set_eq {α : Type} {l:List α} {i:Nat} (h:i<l.length) (a d : α):(l.set i a).getD i d=a:=by
 rw [List.getD_eq_getElem?_getD,List.getElem?_set_self h]
 rfl
theorem getD_set_ne {α : Type} {l:List α} {i j:Nat} (h:i≠j) (a d : α):(l.set i a).getD j d=l.getD j d:=by
 rw [List.getD_eq_getElem?_getD,List.getElem?_set_ne h,← List.getD_eq_getElem?_getD]
theorem chain_wrote {ts:List Tab} {l:List Chg} {pl:List (List bB)} (h:sj ts l pl) (ho:l.Pairwise (fun a b=>a.seq<b.seq)) : ∀ i (hi:i<pl.length) (hi':i<ts.length),∀ r∈pl[i],∀ m,m<ts[i].ae.length→WroteOk l i m r:=by
 induction h with
 | nil=>intro i hi hi' r hr;simp at hr
 | snoc h hp hc ih =>
   rename_i l0 pl0 x rt
   intro i hi hi' r hr m hm
   have ho2:=List.pairwise_append.1 ho
   have hlt : ∀ y∈l0,y.seq<x.seq:=fun y hy=>ho2.2.2 y hy x spA
   obtain ⟨hok,hf⟩:=jK hc
   obtain ⟨k,hin⟩:=iO hf
   obtain ⟨hkv,hkk⟩:=yG hf hok.cat
   have hkt:=hin.lt
   have hkr:k<rt.length:=by rw [hok.len];exact hkt
   have hkp:k<pl0.length:=by rw [← hp];simpa using hkr
   have hip:i<pl0.length:=by simpa [aU] using hi
   have IH:=ih ho2.1 i hip hi'
   have hskip : ∀ r∈pl0[i],¬ Writes x i m (aJ r)→WroteOk (l0 ++ [x]) i m r:=fun r hr hw=>(IH r hr m hm).skip hw
   have e:(aU pl0 x)[i]'hi=if k=i then dn pl0[i] x else pl0[i]:=by
    unfold aU
    simp only [hin.tab,Int.toNat_natCast,List.getElem_set]
    split
    ·rename_i e
     subst e
     rw [gX hkp]
    ·rfl
   rw [e] at hr
   by_cases hki:k=i
   rotate_left
   ·rw [if_neg hki] at hr
    exact hskip r hr fun hw=>hki (by have h1:=hw.1;rw [hin.tab] at h1;omega)
   subst hki
   rw [if_pos rfl] at hr
   have ht:=hok.pure.tab k (by simpa using hkr) hkt
   have ePl:(rt.map ax)[k]'(by simpa using hkr)=pl0[k]:=by simp only [hp]
   rw [ePl] at ht
   have hK:=ht.keys (hok.cat.ae hkt).1
   obtain ⟨F,hF⟩ : ∃ F,df pl0[k] (keyOf x)=F:=⟨_,rfl⟩
   have hF2:df (rt[k].recs.map aG) (keyOf x)=F:=by rw [← hF,← ePl,List.getElem_map];rfl
   have hst:=vV hok hin.tab hkr hkv hkk hF2
   have hz:iF ts rt x = 0:=by
    have h1:=hc
    unfold dZ at h1
    rw [aT hok,if_neg (by decide),hf,if_neg (by decide)] at h1
    split at h1
    ·cases h1
    ·exact h1
   rw [hz] at hst
   have hlen:pl0[k].length ≤ 64:=ht.len
   rcases hin.kind with h1|h1|h1
   ·have e1:(x.kind == 1)=true:=by simpa using h1
    have e2:(x.kind != 1)=false:=by simpa using h1
    have e3:(x.kind == 2)=false:=by rw [h1];rfl
    have hFf:F=false:=by
     cases F
     ·rfl
     ·rw [e1] at hst;simp at hst
    subst hFf
    have hl64:pl0[k].length < 64:=by
     rcases Nat.lt_or_ge pl0[k].length 64 with h2|h2
     ·exact h2
     ·exfalso
      have h3:rt[k].recs.length=pl0[k].length:=by rw [← ePl,List.getElem_map];simp [ax]
      rw [e1,e2,e3] at hst
      simp only [Bool.and_false,Bool.false_and,Bool.true_and,Bool.false_eq_true,if_false,h3,decide_eq_true h2,if_true] at hst
      split at hst <;> cases hst
    rw [zK hK h1 hkv hF hl64] at hr
    have hi1:=yH hf h1 hin
    have hrl:x.row.length=ts[k].ae.length:=hi1.len
    have hm':m<x.row.length:=by omega
    have hkey:keyOf x=aJ (gN x):=oN h1
    have hr':r=gN x∨r∈pl0[k]:=by
     rcases List.mem_append.1 hr with h2|h2
     ·exact .inr (List.mem_of_mem_take h2)
     ·rcases List.mem_cons.1 h2 with h2|h2
      ·exact .inl h2
      ·exact .inr (List.mem_of_mem_drop h2)
    rcases hr' with rfl|hr'
    ·refine WroteOk.last hlt ⟨hin.tab,by omega,fun _=>hkey,fun h=>by omega⟩ ?_ ?_
     ·simp [gN,List.getD_eq_getElem?_getD,List.getElem?_replicate,hm']
     ·simp [gN,valW,h1]
    ·exact hskip r hr' fun hw=>lost_key hK hkv hkk hF r hr' (hw.2.2.1 h1).symm
   ·have e1:(x.kind == 1)=false:=by rw [h1];rfl
    have e2:(x.kind != 1)=true:=by simp [h1]
    have hFt:F=true:=by
     cases F
     ·rw [e1,e2] at hst;simp at hst
     ·rfl
    subst hFt
    obtain ⟨c,hu⟩:=yF hf h1 hin
    have hcx:x.column=(c:Int):=hu.col
    have hkx:keyOf x=x.key:=by unfold keyOf;rw [e1];rfl
    rw [BI hK h1 hkv hkk hF] at hr
    obtain ⟨j,hje⟩ : ∃ j,eU pl0[k] (keyOf x)=j:=⟨_,rfl⟩
    obtain ⟨hj,hcmp⟩:=(jq hK hkv hje).1 hF
    have hhead:aJ pl0[k][j]=keyOf x:=(qN hkv (hK.val _ (lgm hj)) hcmp).symm
    rw [hje] at hr
    unfold updP at hr
    rw [List.getElem?_eq_getElem hj] at hr
    simp only at hr
    obtain ⟨n,hn,rfl⟩:=List.getElem_of_mem hr
    rw [List.length_set] at hn
    have hrc:=ht.rcd _ (lgm hj)
    rw [List.getElem_set]
    by_cases hjn:j=n
    ·subst hjn
     rw [if_pos rfl,hcx,Int.toNat_natCast]
     have hh:aJ (pl0[k][j].1.set c x.val,pl0[k][j].2.1.set c x.seq,pl0[k][j].2.2)=aJ pl0[k][j]:=by
      have h2:=updP_key hcx hu.pos pl0[k][j]
      rw [hcx,Int.toNat_natCast] at h2
      exact h2
     have hcl:=hu.lt
     by_cases hmc:c=m
     ·subst hmc
      refine WroteOk.last hlt ⟨hin.tab,by omega,fun h=>by omega,fun _=>⟨?_,hcx⟩⟩ ?_ ?_
      ·rw [hh,hhead,hkx]
      ·exact getD_set_eq (by rw [hrc.qW];exact hcl) _ _
      ·show (pl0[k][j].1.set c x.val).getD c _=_
       rw [getD_set_eq (by rw [hrc.len];exact hcl)]
       unfold valW
       rw [if_neg omA]
     ·refine WroteOk.skip ((IH _ (lgm hj) m hm).same hh (getD_set_ne hmc _ _) (getD_set_ne hmc _ _)) fun hw => ?_
      have h2:=(hw.2.2.2 h1).2
      rw [hcx] at h2
      omega
    ·rw [if_neg hjn]
     refine hskip _ (lgm hn) fun hw=>key_apart hK hn hj (fun e=>hjn e.symm) ?_
     rw [hhead,hkx]
     exact (hw.2.2.2 h1).1.symm
   ·have e1:(x.kind == 1)=false:=by rw [h1];rfl
    have e2:(x.kind != 1)=true:=by simp [h1]
    have hFt:F=true:=by
     cases F
     ·rw [e1,e2] at hst;simp at hst
     ·rfl
    subst hFt
    rw [tY hK h1 hkv hkk hF] at hr
    exact hskip r ((cutP_sub _ _).subset hr) fun hw=>hw.2.1 h1
open Go.RowKit Go
def Hits (x:Chg) (i m:Nat) (r:bB):Prop:=Writes x i m (aJ r)∧x.seq=r.2.1.getD m 0∧valW x m=r.1.getD m ⟨0,0,⟨#[]⟩⟩
noncomputable def hitB (l:List Chg) (i m j:Nat) (r:bB):Bool:=pb (∃ x∈l.take j,Hits x i m r)
theorem hitB_zero (l:List Chg) (i m:Nat) (r:bB):hitB l i m 0 r=false:=aN (fun ⟨x,hx,_⟩=>by simp at hx)
theorem hitB_no {l:List Chg} {i m j:Nat} {r:bB} (hj:j<l.length) (h : ¬ Hits l[j] i m r):hitB l i m (j + 1) r=hitB l i m j r:=by
 unfold hitB
 congr 1
 refine propext ⟨fun ⟨x,hx,h2⟩ => ?_,fun ⟨x,hx,h2⟩=>⟨x,?_,h2⟩⟩
 ·rw [List.take_succ_eq_append_getElem hj] at hx
  rcases List.mem_append.1 hx with h1|h1
  ·exact ⟨x,h1,h2⟩
  ·rw [List.mem_singleton.1 h1] at h2
   exact absurd h2 h
 ·rw [List.take_succ_eq_append_getElem hj]
  exact List.mem_append_left _ hx
theorem hitB_yes {l:List Chg} {i m j:Nat} {r:bB} (hj:j<l.length) (h:Hits l[j] i m r):hitB l i m (j + 1) r=true:=aT ⟨l[j],by rw [List.take_succ_eq_append_getElem hj];exact List.mem_append_right _ (List.mem_singleton.2 rfl),h⟩
theorem hitB_old {l:List Chg} {i m j:Nat} {r:bB} (hj:j<l.length) (h:hitB l i m j r=true):hitB l i m (j + 1) r=true:=by
 obtain ⟨x,hx,h2⟩:=eF.1 h
 exact aT ⟨x,by rw [List.take_succ_eq_append_getElem hj];exact List.mem_append_left _ hx,h2⟩
theorem law07_wrote (LA:Option Addr) (lc n:Nat) (l:List Chg) (i m:Nat) (QA:Option Addr) (qc:Nat) (gU:List Val) (QS:Option Addr) (qs:Nat) (gF:List Int) (qd:Int) (w:World) (hl:jv w w.heap.size LA l) (hn:l.length=n) (hn6:n ≤ 1000000) (hrow:ag w w.heap.size Val.cells 3 QA gU) (hseq:ag w w.heap.size intCells 1 QS gF) (hm:m<gU.length) (hms:m<gF.length) (h8:gU.length ≤ 1000)
 (hx : ∀ x∈l,(x.kind = 1∨x.kind = 2∨x.kind = 3)∧(x.kind = 1→x.table=(i:Int)→x.row.length=gU.length)∧(x.kind = 1 → 0<x.row.length)) (hW:WroteOk l i m (gU,gF,qd)) :
 Calls Tryz.prog 12 #[.slice LA n lc, .int .i64 i, .int .i64 m, .agg #[.slice QA gU.length qc, .slice QS gF.length qs, .int .i64 qd]] w fun e w'=>e = .returned (.bool true)∧Below w.heap.size w w':=by
 subst hn
 have hg:Tryz.prog.eqGuardType Tryz.prog.depth 51=false:=by kernel_rfl
 have h0 : 0<gU.length:=by omega
 obtain ⟨b7,o7,rfl,hb7,hc7⟩:=hrow.get h0
 obtain ⟨y0,y1,y2⟩:=Val.cells3 hc7
 obtain ⟨b8,o8,he8,hb8,hc8⟩:=hrow.get hm
 injection he8 with he8
 injection he8 with e1 e2
 subst e1 e2
 obtain ⟨z0,z1,z2⟩:=Val.cells3 hc8
 obtain ⟨b9,o9,rfl,hb9,hc9⟩:=hseq.get hms
 have s0:=hc9 0 _ rfl
 simp only [Nat.zero_mul,Nat.add_zero,Nat.mul_one] at y0 y1 y2 s0
 have hhd:aJ (gU,gF,qd)=gU[0]:=oP h0
 have hsv:((gU,gF,qd):bB).2.1.getD m 0=gF[m]:=by
  show gF.getD m 0=gF[m]
  rw [List.getD_eq_getElem?_getD,List.getElem?_eq_getElem hms]
  rfl
 have hvv:((gU,gF,qd):bB).1.getD m ⟨0,0,⟨#[]⟩⟩=gU[m]:=by
  show gU.getD m _=gU[m]
  rw [List.getD_eq_getElem?_getD,List.getElem?_eq_getElem hm]
  rfl
 have HLE:Hid (∀ x∈l,Writes x i m gU[0]→x.seq≤gF[m]):=qh fun x hxl hw=>by
  have h:=hW.le x hxl (by rw [hhd];exact hw)
  rwa [hsv] at h
 have wT:Hid (hitB l i m l.length (gU,gF,qd)=true):=qh (aT (by
  obtain ⟨x,h1,h2⟩:=hW.ex
  exact ⟨x,by rw [List.take_length];exact h1,h2⟩))
 have HHIT:Hid (∀ x,Hits x i m (gU,gF,qd)↔Writes x i m gU[0]∧x.seq=gF[m]∧valW x m=gU[m]):=qh fun x=>by
  unfold Hits
  rw [hhd,hsv,hvv]
 obtain ⟨k0,hk0e⟩ : ∃ v,gU[0]=v:=⟨_,rfl⟩
 obtain ⟨vm,hvm⟩ : ∃ v,gU[m]=v:=⟨_,rfl⟩
 obtain ⟨sm,hsm⟩ : ∃ s,gF[m]=s:=⟨_,rfl⟩
 rw [hk0e] at y0 y1 y2 HLE HHIT
 rw [hvm] at z0 z1 z2 HHIT
 rw [hsm] at s0 HLE HHIT
 have HY:=qh (And.intro y0 (And.intro y1 y2))
 have HZ:=qh (And.intro z0 (And.intro z1 z2))
 have HSM:=qh s0
 have HL:=qh hl
 have HX:=qh hx
 obtain ⟨r,hr⟩ : ∃ r:bB,(gU,gF,qd)=r:=⟨_,rfl⟩
 rw [hr] at wT HHIT
 have hmd:decide (m<gU.length)=true:=by simpa using hm
 have hmsd:decide (m<gF.length)=true:=by simpa using hms
 have h0d:decide (0<gU.length)=true:=by simpa using h0
 clear hl hrow hseq hx hW hc7 hc8 hc9 hb8 y0 y1 y2 z0 z1 z2 s0 hhd hsv hvv hk0e hvm hsm hr
 go_enter Tryz.func12,Tryz.ntmps12
 go_upto_region 3 with (fail)
 refine ah (P:=fun u=>Code.wp _ _ _ _ u) (R:=fun u=>Blk u w.heap.size 43 #[.slice (some ⟨b7,o7,none⟩) gU.length qc, .slice (some ⟨b9,o9,none⟩) gF.length qs, .int .i64 qd]∧Below w.heap.size w u) ⟨?_,?_⟩ ?_
 ·exact Blk.new' spA
 ·exact au
 rintro W ⟨hB,hbW⟩
 have hzW:=hB.lt
 have HB:=qh hB
 clear hB
 go_loopw [9,10] (fun vf vi wr => ∃ j:Nat,j≤l.length∧vi = .int .i64 j∧vf = .bool (hitB l i m j r)∧Below W.heap.size W wr) (fun _ vi _=>l.length - (intOf vi).toNat)
 case atStart=>exact ⟨0,Nat.zero_le _,rfl,by rw [hitB_zero],Below.refl _ _⟩
 case round =>
  obtain ⟨j,hj,rfl,rfl,hbr⟩:=hrel
  have hwz:=hbr.size
  have hxr:=aa hbW hbr hbW.size
  have hxz:=hxr.size
  by_cases hlt:j<l.length
  ·obtain ⟨b5,o5,rfl,hb5,hc5⟩:=(HL.out.1.below hxr).get hlt
   obtain ⟨⟨q0,q1,q2,q3⟩,q4,⟨q5,q6,q7⟩,q8,q9,q10,q11⟩:=Chg.uE hc5
   have hR:=HL.out.2 l[j] (lgm hlt)
   obtain ⟨hkd,hln,hl0⟩:=HX.out l[j] (lgm hlt)
   have hle:=HLE.out l[j] (lgm hlt)
   have hh:=HHIT.out l[j]
   have hno:=hitB_no (i:=i) (m:=m) (r:=r) hlt
   have hyes:=hitB_yes (i:=i) (m:=m) (r:=r) hlt
   have hold:=hitB_old (i:=i) (m:=m) (r:=r) hlt
   obtain ⟨⟨kd,sq,dy,tb,A0,cp,row,key,cl,vl⟩,hxe⟩ : ∃ x,l[j]=x:=⟨_,rfl⟩
   rw [hxe] at q0 q1 q2 q3 q4 q5 q6 q7 q8 q9 q10 q11 hR hkd hln hl0 hle hh hno hyes
   simp only at q0 q1 q2 q3 q4 q5 q6 q7 q8 q9 q10 q11 hR hkd hln hl0 hle
   have HNO:=qh hno
   have iy:=qh hyes
   have HOLD:=qh hold
   have HLE1:=qh hle
   have HH:=qh hh
   have HR:=qh hR
   have HLN:=qh hln
   have HL0:=qh hl0
   have HKD:=qh hkd
   obtain ⟨hb,hhb⟩ : ∃ b,hitB l i m j r=b:=⟨_,rfl⟩
   rw [hhb] at HNO HOLD ⊢
   clear hc5 hR hkd hln hl0 hle hh hno hyes hold hxe hhb
   go_upto_region 6 with (fail)
   refine ah (P:=fun u=>Code.wp _ _ _ _ u) (R:=fun u=>Blk u wr.heap.size 53 (Chg.cells ⟨kd,sq,dy,tb,A0,cp,row,key,cl,vl⟩).toArray∧Below wr.heap.size wr u) ⟨?_,?_⟩ ?_
   ·exact Blk.new' spA
   ·exact au
   clear q0 q1 q2 q3 q4 q5 q6 q7 q8 q9 q10 q11
   rintro X ⟨hXB,hbX⟩
   have hzX:=hXB.lt
   have hbrX:=aa hbr hbX hwz
   have hxX:=aa hbW hbrX hbW.size
   have hxXz:=hxX.size
   have hzz:=hbX.size
   have HXB:=qh hXB
   obtain ⟨⟨q0,q1,q2,q3⟩,q4,⟨q5,q6,q7⟩,q8,q9,q10,q11⟩:=Chg.eZ hXB
   simp only at q0 q1 q2 q3 q4 q5 q6 q7 q8 q9 q10 q11
   have hB:=HB.out.below hbrX hzW
   have p0:=hB.cell 0
   have p1:=hB.cell 1
   simp only [gE3] at p0 p1
   obtain ⟨y0,y1,y2⟩:=HY.out
   replace y0:=(hxX.cell (p:=⟨b7,_,none⟩) hb7).trans y0
   replace y1:=(hxX.cell (p:=⟨b7,_,none⟩) hb7).trans y1
   replace y2:=(hxX.cell (p:=⟨b7,_,none⟩) hb7).trans y2
   have hk0:=aC (w:=X) wr.heap.size hzX
   have hk1:=aC (w:=X) w.heap.size omA
   have hk2:=aC (w:=X) b7 omA
   clear hXB hB
   by_cases ht:tb=(i:Int)
   rotate_left
   ·have hd:(tb != (i:Int))=true:=by simpa using ht
    (
    have Vi:Hid (hitB l i m (j + 1) r=hb):=qh (HNO.out fun h=>(fun h=>ht h.1) ((HH.out.1 h).1))
    refine af krA krA ?_;(repeat (go_big_quiet_step (fail)));refine wpQuiet_nil ?_;intro wq hq
    clear hk0 hk1 hk2 p0 p1 q0 q1 q2 q3 q4 q5 q6 q7 q8 q9 q10 q11 y0 y1 y2
    go_wp2_with fail
    go_roundw
    case rel=>exact ⟨j + 1,by omega,by go_num,by rw [Vi.out],aa hbrX hq omA⟩
    case measure=>exact meA)
   have hd:(tb != (i:Int))=false:=by simpa using ht
   by_cases h3:kd = 3
   ·have hd3:(kd == 3)=true:=by simpa using h3
    (
    have Vi:Hid (hitB l i m (j + 1) r=hb):=qh (HNO.out fun h=>(fun h=>h.2.1 h3) ((HH.out.1 h).1))
    refine af krA krA ?_;(repeat (go_big_quiet_step (fail)));refine wpQuiet_nil ?_;intro wq hq
    clear hk0 hk1 hk2 p0 p1 q0 q1 q2 q3 q4 q5 q6 q7 q8 q9 q10 q11 y0 y1 y2
    go_wp2_with fail
    go_roundw
    case rel=>exact ⟨j + 1,by omega,by go_num,by rw [Vi.out],aa hbrX hq omA⟩
    case measure=>exact meA)
   have hd3:(kd == 3)=false:=by simpa using h3
   by_cases h1:kd = 1
   ·have hd1:(kd == 1)=true:=by simpa using h1
    have hd2:(kd == 2)=false:=by rw [h1];rfl
    have hr0:=HL0.out h1
    have hrm:m<row.length:=by rw [HLN.out h1 ht];exact hm
    have hkey:keyOf ⟨kd,sq,dy,tb,A0,cp,row,key,cl,vl⟩=row[0]:=by
     cases row with
     | nil=>simp at hr0
     | cons a t=>simp [keyOf,h1]
    obtain ⟨b6,o6,rfl,hb6,hc6⟩:=HR.out.get hr0
    obtain ⟨x0,x1,x2⟩:=Val.cells3 hc6
    obtain ⟨b8,o8,he8,hb8,hc8⟩:=HR.out.get hrm
    injection he8 with he8
    injection he8 with e1 e2
    subst e1 e2
    obtain ⟨m0,m1,m2⟩:=Val.cells3 hc8
    simp only [Nat.zero_mul,Nat.add_zero] at x0 x1 x2
    have HM0:=qh (And.intro m0 (And.intro m1 m2))
    replace x0:=(hxX.cell (p:=⟨b6,_,none⟩) hb6).trans x0
    replace x1:=(hxX.cell (p:=⟨b6,_,none⟩) hb6).trans x1
    replace x2:=(hxX.cell (p:=⟨b6,_,none⟩) hb6).trans x2
    have hk3:=aC (w:=X) b6 omA
    have hr0d:decide (0<row.length)=true:=by simpa using hr0
    have hrmd:decide (m<row.length)=true:=by simpa using hrm
    have HVW:Hid (valW ⟨kd,sq,dy,tb,some ⟨b6,o6,none⟩,cp,row,key,cl,vl⟩ m=row[m]):=qh (by
     unfold valW
     rw [if_pos h1]
     show row.getD m _=row[m]
     rw [List.getD_eq_getElem?_getD,List.getElem?_eq_getElem hrm]
     rfl)
    clear hc6 hc8 m0 m1 m2 hb8
    cases hke:decide (row[0]=k0)
    ·have heq:=dx hke
     (
     have Vi:Hid (hitB l i m (j + 1) r=hb):=qh (HNO.out fun h=>(fun h=>of_decide_eq_false hke (hkey.symm.trans (h.2.2.1 h1))) ((HH.out.1 h).1))
     refine af krA krA ?_;(repeat (go_big_quiet_step (fail)));refine wpQuiet_nil ?_;intro wq hq
     clear hk0 hk1 hk2 p0 p1 q0 q1 q2 q3 q4 q5 q6 q7 q8 q9 q10 q11 y0 y1 y2
     go_wp2_with fail
     go_roundw
     case rel=>exact ⟨j + 1,by omega,by go_num,by rw [Vi.out],aa hbrX hq omA⟩
     case measure=>exact meA)
    ·have heq:=dx hke
     have HW:Hid (Writes ⟨kd,sq,dy,tb,some ⟨b6,o6,none⟩,cp,row,key,cl,vl⟩ i m k0):=qh ⟨ht,h3,fun _=>hkey.trans (of_decide_eq_true hke),fun h=>absurd (h1.symm.trans h) (by decide)⟩
     obtain ⟨aai,hvw⟩ : ∃ v,row[m]=v:=⟨_,rfl⟩
     rw [hvw] at HVW HM0
     refine af krA krA ?_;(repeat (go_big_quiet_step (fail)));refine wpQuiet_nil ?_;intro wq hq
     clear hk0 hk1 hk2 hk3 p0 p1 q0 q1 q2 q3 q4 q5 q6 q7 q8 q9 q10 q11 y0 y1 y2 x0 x1 x2 heq hke hvw
     obtain ⟨V,rfl⟩ : ∃ V:World,V=wq:=⟨_,rfl⟩
     have hqV:Below X.heap.size X V:=hq
     have hzqV:=hqV.size
     have hwV:wr.heap.size<V.heap.size:=by omega
     have hwV0:w.heap.size<V.heap.size:=by omega
     have hwV6:b6<V.heap.size:=by omega
     clear hq
     obtain ⟨⟨q0,q1,q2,q3⟩,q4,⟨q5,q6,q7⟩,q8,q9,q10,q11⟩:=Chg.eZ (HXB.out.below hqV hzX)
     simp only at q0 q1 q2 q3 q4 q5 q6 q7 q8 q9 q10 q11
     have p0:=(HB.out.below (aa hbrX hqV omA) hzW).cell 0
     have p1:=(HB.out.below (aa hbrX hqV omA) hzW).cell 1
     simp only [gE3] at p0 p1
     obtain ⟨m0,m1,m2⟩:=HM0.out
     replace m0:=((aa hxX hqV omA).cell (p:=⟨b6,_,none⟩) hb6).trans m0
     replace m1:=((aa hxX hqV omA).cell (p:=⟨b6,_,none⟩) hb6).trans m1
     replace m2:=((aa hxX hqV omA).cell (p:=⟨b6,_,none⟩) hb6).trans m2
     (
     go_upto_region 10 with (fail)
     refine ah (P:=fun u=>Code.wp _ _ _ _ u) (R:=fun u=>Blk u V.heap.size 51 (Val.cells aai).toArray∧Below V.heap.size V u) ⟨?_,?_⟩ ?_
     ·first|exact Blk.new' spA|exact qA (Blk.new' spA)
     ·exact au
     clear q0 q1 q2 q3 q4 q5 q6 q7 q8 q9 q10 q11 p0 p1
     rintro Y ⟨hVB,hbY⟩
     have hzV:=hVB.lt
     have HVB:=qh hVB
     have hXY:Below X.heap.size X Y:=aa hqV hbY omA
     have hzY:=hXY.size
     have hdle:decide (sm<sq)=false:=decide_eq_false (by have:=HLE1.out HW.out;omega)
     clear hVB
     obtain ⟨⟨q0,q1,q2,q3⟩,q4,⟨q5,q6,q7⟩,q8,q9,q10,q11⟩:=Chg.eZ (HXB.out.below hXY hzX)
     simp only at q0 q1 q2 q3 q4 q5 q6 q7 q8 q9 q10 q11
     have p0:=(HB.out.below (aa hbrX hXY omA) hzW).cell 0
     have p1:=(HB.out.below (aa hbrX hXY omA) hzW).cell 1
     simp only [gE3] at p0 p1
     have s0:=((aa hxX hXY omA).cell (p:=⟨b9,_,none⟩) hb9).trans HSM.out
     have hk0:=aC (w:=Y) wr.heap.size omA
     have hk1:=aC (w:=Y) w.heap.size omA
     have hk2:=aC (w:=Y) b9 omA
     refine af krA krA ?_;(repeat (go_big_quiet_step (fail)));refine wpQuiet_nil ?_;intro wq hq
     clear hk0 hk1 hk2 p0 p1 q0 q1 q2 q3 q4 q5 q6 q7 q8 q9 q10 q11 s0
     obtain ⟨Z,rfl⟩ : ∃ Z:World,Z=wq:=⟨_,rfl⟩
     have hqY:Below X.heap.size X Z:=aa hXY hq omA
     have hzZ:=hqY.size
     have hVZ:=HVB.out.below hq hzV
     clear hq
     go_upto_region 12 with (fail)
     obtain ⟨⟨q0,q1,q2,q3⟩,q4,⟨q5,q6,q7⟩,q8,q9,q10,q11⟩:=Chg.eZ (HXB.out.below hqY hzX)
     simp only at q0 q1 q2 q3 q4 q5 q6 q7 q8 q9 q10 q11
     have p0:=(HB.out.below (aa hbrX hqY omA) hzW).cell 0
     have p1:=(HB.out.below (aa hbrX hqY omA) hzW).cell 1
     simp only [gE3] at p0 p1
     have v0:=hVZ.cell 0
     have v1:=hVZ.cell 1
     have v2:=hVZ.cell 2
     simp only [Val.cells,gE3] at v0 v1 v2
     have s0:=((aa hxX hqY omA).cell (p:=⟨b9,_,none⟩) hb9).trans HSM.out
     obtain ⟨z0,z1,z2⟩:=HZ.out
     replace z0:=((aa hxX hqY omA).cell (p:=⟨b7,_,none⟩) hb7).trans z0
     replace z1:=((aa hxX hqY omA).cell (p:=⟨b7,_,none⟩) hb7).trans z1
     replace z2:=((aa hxX hqY omA).cell (p:=⟨b7,_,none⟩) hb7).trans z2
     have hzl:=hVZ.lt
     have hk0:=aC (w:=Z) wr.heap.size omA
     have hk1:=aC (w:=Z) w.heap.size omA
     have hk2:=aC (w:=Z) b9 omA
     have hk3:=aC (w:=Z) b7 omA
     have hk4:=aC (w:=Z) V.heap.size hzl
     clear hVZ
     cases hb
     ·by_cases hsq:sq=sm
      ·have hsd:(sq==sm)=true:=by simpa using hsq
       cases hve:decide (aai=vm)
       ·have heq:=dx hve
        (
        have Vi:=qh (HNO.out fun h=>of_decide_eq_false hve (HVW.out.symm.trans (HH.out.1 h).2.2))
        refine af krA krA ?_;(repeat (go_big_quiet_step (fail)));refine wpQuiet_nil ?_;intro wq hq
        clear hk0 hk1 hk2 hk3 hk4 p0 p1 q0 q1 q2 q3 q4 q5 q6 q7 q8 q9 q10 q11 v0 v1 v2 s0 z0 z1 z2
        go_wp2_with fail
        go_roundw
        case rel=>exact ⟨j + 1,by omega,by go_num,by rw [Vi.out],aa hbrX (aa hqY hq (by have:=hqY.size;omega)) omA⟩
        case measure=>exact meA)
       ·have heq:=dx hve
        (
        have Vi:=qh (iy.out (HH.out.2 ⟨HW.out,hsq,HVW.out.trans (of_decide_eq_true hve)⟩))
        refine af krA krA ?_;(repeat (go_big_quiet_step (fail)));refine wpQuiet_nil ?_;intro wq hq
        clear hk0 hk1 hk2 hk3 hk4 p0 p1 q0 q1 q2 q3 q4 q5 q6 q7 q8 q9 q10 q11 v0 v1 v2 s0 z0 z1 z2
        go_wp2_with fail
        go_roundw
        case rel=>exact ⟨j + 1,by omega,by go_num,by rw [Vi.out],aa hbrX (aa hqY hq (by have:=hqY.size;omega)) omA⟩
        case measure=>exact meA)
      ·have hsd:(sq==sm)=false:=by simpa using hsq
       (
       have Vi:=qh (HNO.out fun h=>hsq (HH.out.1 h).2.1)
       refine af krA krA ?_;(repeat (go_big_quiet_step (fail)));refine wpQuiet_nil ?_;intro wq hq
       clear hk0 hk1 hk2 hk3 hk4 p0 p1 q0 q1 q2 q3 q4 q5 q6 q7 q8 q9 q10 q11 v0 v1 v2 s0 z0 z1 z2
       go_wp2_with fail
       go_roundw
       case rel=>exact ⟨j + 1,by omega,by go_num,by rw [Vi.out],aa hbrX (aa hqY hq (by have:=hqY.size;omega)) omA⟩
       case measure=>exact meA)
     ·(
      have Vi:=qh (HOLD.out rfl)
      refine af krA krA ?_;(repeat (go_big_quiet_step (fail)));refine wpQuiet_nil ?_;intro wq hq
      clear hk0 hk1 hk2 hk3 hk4 p0 p1 q0 q1 q2 q3 q4 q5 q6 q7 q8 q9 q10 q11 v0 v1 v2 s0 z0 z1 z2
      go_wp2_with fail
      go_roundw
      case rel=>exact ⟨j + 1,by omega,by go_num,by rw [Vi.out],aa hbrX (aa hqY hq (by have:=hqY.size;omega)) omA⟩
      case measure=>exact meA))
   ·have hd1:(kd == 1)=false:=by simpa using h1
    have h2:kd = 2:=by rcases HKD.out with h|h|h <;> omega
    have hd2:(kd == 2)=true:=by simpa using h2
    have HVW:Hid (valW ⟨kd,sq,dy,tb,A0,cp,row,key,cl,vl⟩ m=vl):=qh (by unfold valW;rw [if_neg h1])
    cases hke:decide (key=k0)
    ·have heq:=dx hke
     (
     have Vi:Hid (hitB l i m (j + 1) r=hb):=qh (HNO.out fun h=>(fun h=>of_decide_eq_false hke (h.2.2.2 h2).1) ((HH.out.1 h).1))
     refine af krA krA ?_;(repeat (go_big_quiet_step (fail)));refine wpQuiet_nil ?_;intro wq hq
     clear hk0 hk1 hk2 p0 p1 q0 q1 q2 q3 q4 q5 q6 q7 q8 q9 q10 q11 y0 y1 y2
     go_wp2_with fail
     go_roundw
     case rel=>exact ⟨j + 1,by omega,by go_num,by rw [Vi.out],aa hbrX hq omA⟩
     case measure=>exact meA)
    ·have heq:=dx hke
     by_cases hcl:cl=(m:Int)
     rotate_left
     ·have hdc:(cl != (m:Int))=true:=by simpa using hcl
      (
      have Vi:Hid (hitB l i m (j + 1) r=hb):=qh (HNO.out fun h=>(fun h=>hcl (h.2.2.2 h2).2) ((HH.out.1 h).1))
      refine af krA krA ?_;(repeat (go_big_quiet_step (fail)));refine wpQuiet_nil ?_;intro wq hq
      clear hk0 hk1 hk2 p0 p1 q0 q1 q2 q3 q4 q5 q6 q7 q8 q9 q10 q11 y0 y1 y2
      go_wp2_with fail
      go_roundw
      case rel=>exact ⟨j + 1,by omega,by go_num,by rw [Vi.out],aa hbrX hq omA⟩
      case measure=>exact meA)
     have hdc:(cl != (m:Int))=false:=by simpa using hcl
     have HW:Hid (Writes ⟨kd,sq,dy,tb,A0,cp,row,key,cl,vl⟩ i m k0):=qh ⟨ht,h3,fun h=>absurd h h1,fun _=>⟨of_decide_eq_true hke,hcl⟩⟩
     refine af krA krA ?_;(repeat (go_big_quiet_step (fail)));refine wpQuiet_nil ?_;intro wq hq
     clear hk0 hk1 hk2 p0 p1 q0 q1 q2 q3 q4 q5 q6 q7 q8 q9 q10 q11 y0 y1 y2 heq hke
     obtain ⟨V,rfl⟩ : ∃ V:World,V=wq:=⟨_,rfl⟩
     have hqV:Below X.heap.size X V:=hq
     have hzqV:=hqV.size
     have hwV:wr.heap.size<V.heap.size:=by omega
     have hwV0:w.heap.size<V.heap.size:=by omega
     clear hq
     obtain ⟨⟨q0,q1,q2,q3⟩,q4,⟨q5,q6,q7⟩,q8,q9,q10,q11⟩:=Chg.eZ (HXB.out.below hqV hzX)
     simp only at q0 q1 q2 q3 q4 q5 q6 q7 q8 q9 q10 q11
     have p0:=(HB.out.below (aa hbrX hqV omA) hzW).cell 0
     have p1:=(HB.out.below (aa hbrX hqV omA) hzW).cell 1
     simp only [gE3] at p0 p1
     (
     go_upto_region 10 with (fail)
     refine ah (P:=fun u=>Code.wp _ _ _ _ u) (R:=fun u=>Blk u V.heap.size 51 (Val.cells vl).toArray∧Below V.heap.size V u) ⟨?_,?_⟩ ?_
     ·first|exact Blk.new' spA|exact qA (Blk.new' spA)
     ·exact au
     clear q0 q1 q2 q3 q4 q5 q6 q7 q8 q9 q10 q11 p0 p1
     rintro Y ⟨hVB,hbY⟩
     have hzV:=hVB.lt
     have HVB:=qh hVB
     have hXY:Below X.heap.size X Y:=aa hqV hbY omA
     have hzY:=hXY.size
     have hdle:decide (sm<sq)=false:=decide_eq_false (by have:=HLE1.out HW.out;omega)
     clear hVB
     obtain ⟨⟨q0,q1,q2,q3⟩,q4,⟨q5,q6,q7⟩,q8,q9,q10,q11⟩:=Chg.eZ (HXB.out.below hXY hzX)
     simp only at q0 q1 q2 q3 q4 q5 q6 q7 q8 q9 q10 q11
     have p0:=(HB.out.below (aa hbrX hXY omA) hzW).cell 0
     have p1:=(HB.out.below (aa hbrX hXY omA) hzW).cell 1
     simp only [gE3] at p0 p1
     have s0:=((aa hxX hXY omA).cell (p:=⟨b9,_,none⟩) hb9).trans HSM.out
     have hk0:=aC (w:=Y) wr.heap.size omA
     have hk1:=aC (w:=Y) w.heap.size omA
     have hk2:=aC (w:=Y) b9 omA
     refine af krA krA ?_;(repeat (go_big_quiet_step (fail)));refine wpQuiet_nil ?_;intro wq hq
     clear hk0 hk1 hk2 p0 p1 q0 q1 q2 q3 q4 q5 q6 q7 q8 q9 q10 q11 s0
     obtain ⟨Z,rfl⟩ : ∃ Z:World,Z=wq:=⟨_,rfl⟩
     have hqY:Below X.heap.size X Z:=aa hXY hq omA
     have hzZ:=hqY.size
     have hVZ:=HVB.out.below hq hzV
     clear hq
     go_upto_region 12 with (fail)
     obtain ⟨⟨q0,q1,q2,q3⟩,q4,⟨q5,q6,q7⟩,q8,q9,q10,q11⟩:=Chg.eZ (HXB.out.below hqY hzX)
     simp only at q0 q1 q2 q3 q4 q5 q6 q7 q8 q9 q10 q11
     have p0:=(HB.out.below (aa hbrX hqY omA) hzW).cell 0
     have p1:=(HB.out.below (aa hbrX hqY omA) hzW).cell 1
     simp only [gE3] at p0 p1
     have v0:=hVZ.cell 0
     have v1:=hVZ.cell 1
     have v2:=hVZ.cell 2
     simp only [Val.cells,gE3] at v0 v1 v2
     have s0:=((aa hxX hqY omA).cell (p:=⟨b9,_,none⟩) hb9).trans HSM.out
     obtain ⟨z0,z1,z2⟩:=HZ.out
     replace z0:=((aa hxX hqY omA).cell (p:=⟨b7,_,none⟩) hb7).trans z0
     replace z1:=((aa hxX hqY omA).cell (p:=⟨b7,_,none⟩) hb7).trans z1
     replace z2:=((aa hxX hqY omA).cell (p:=⟨b7,_,none⟩) hb7).trans z2
     have hzl:=hVZ.lt
     have hk0:=aC (w:=Z) wr.heap.size omA
     have hk1:=aC (w:=Z) w.heap.size omA
     have hk2:=aC (w:=Z) b9 omA
     have hk3:=aC (w:=Z) b7 omA
     have hk4:=aC (w:=Z) V.heap.size hzl
     clear hVZ
     cases hb
     ·by_cases hsq:sq=sm
      ·have hsd:(sq==sm)=true:=by simpa using hsq
       cases hve:decide (vl=vm)
       ·have heq:=dx hve
        (
        have Vi:=qh (HNO.out fun h=>of_decide_eq_false hve (HVW.out.symm.trans (HH.out.1 h).2.2))
        refine af krA krA ?_;(repeat (go_big_quiet_step (fail)));refine wpQuiet_nil ?_;intro wq hq
        clear hk0 hk1 hk2 hk3 hk4 p0 p1 q0 q1 q2 q3 q4 q5 q6 q7 q8 q9 q10 q11 v0 v1 v2 s0 z0 z1 z2
        go_wp2_with fail
        go_roundw
        case rel=>exact ⟨j + 1,by omega,by go_num,by rw [Vi.out],aa hbrX (aa hqY hq (by have:=hqY.size;omega)) omA⟩
        case measure=>exact meA)
       ·have heq:=dx hve
        (
        have Vi:=qh (iy.out (HH.out.2 ⟨HW.out,hsq,HVW.out.trans (of_decide_eq_true hve)⟩))
        refine af krA krA ?_;(repeat (go_big_quiet_step (fail)));refine wpQuiet_nil ?_;intro wq hq
        clear hk0 hk1 hk2 hk3 hk4 p0 p1 q0 q1 q2 q3 q4 q5 q6 q7 q8 q9 q10 q11 v0 v1 v2 s0 z0 z1 z2
        go_wp2_with fail
        go_roundw
        case rel=>exact ⟨j + 1,by omega,by go_num,by rw [Vi.out],aa hbrX (aa hqY hq (by have:=hqY.size;omega)) omA⟩
        case measure=>exact meA)
      ·have hsd:(sq==sm)=false:=by simpa using hsq
       (
       have Vi:=qh (HNO.out fun h=>hsq (HH.out.1 h).2.1)
       refine af krA krA ?_;(repeat (go_big_quiet_step (fail)));refine wpQuiet_nil ?_;intro wq hq
       clear hk0 hk1 hk2 hk3 hk4 p0 p1 q0 q1 q2 q3 q4 q5 q6 q7 q8 q9 q10 q11 v0 v1 v2 s0 z0 z1 z2
       go_wp2_with fail
       go_roundw
       case rel=>exact ⟨j + 1,by omega,by go_num,by rw [Vi.out],aa hbrX (aa hqY hq (by have:=hqY.size;omega)) omA⟩
       case measure=>exact meA)
     ·(
      have Vi:=qh (HOLD.out rfl)
      refine af krA krA ?_;(repeat (go_big_quiet_step (fail)));refine wpQuiet_nil ?_;intro wq hq
      clear hk0 hk1 hk2 hk3 hk4 p0 p1 q0 q1 q2 q3 q4 q5 q6 q7 q8 q9 q10 q11 v0 v1 v2 s0 z0 z1 z2
      go_wp2_with fail
      go_roundw
      case rel=>exact ⟨j + 1,by omega,by go_num,by rw [Vi.out],aa hbrX (aa hqY hq (by have:=hqY.size;omega)) omA⟩
      case measure=>exact meA))
  ·have hlt':decide (j<l.length)=false:=by simpa using hlt
   have hje:j=l.length:=by omega
   rw [hje,wT.out]
   clear hje
   go_wp2_with fail
   go_ret
   exact ⟨rfl,hxr⟩
end Go.Proofs.YtkiglflbngfelaaGreat
