/-
  Contracts and plain laws of this seat, part 52.
-/
import Derived.Test.YtebippoohpnjkaaGreatF41
import Derived.Test.YtebippoohpnjkaaGreatF54
import Derived.Test.YtebippoohpnjkaaGreatF46
set_option linter.unusedVariables false
set_option linter.unusedSimpArgs false
set_option maxRecDepth 100000
set_option maxHeartbeats 16000000
namespace Go.Proofs.YtebippoohpnjkaaGreat
open Go.RowKit Go
theorem fj{P:Prop}(h:P:=by simp[go_sem]):P:=h
theorem fk{P:Prop}(h:P:=by rw[HFX.out];simp):P:=h
theorem fl{P:Prop}(h:P:=by rw[h4];simp):P:=h
def zU(t:List bu):RTab:=⟨none,0,t.map fun r=>⟨none,0,r.1,none,0,r.2.1,r.2.2⟩⟩
theorem lift_pure(pl:List (List bu)):(pl.map zU).map aB=pl:=by
 rw[List.map_map]
 refine(List.map_congr_left fun t _ =>?_).trans (List.map_id _)
 unfold zU aB
 simp only[Function.comp,List.map_map]
 exact(List.map_congr_left fun r _=>rfl).trans (List.map_id _)
theorem qU{ts:List Tab}{rt rt':List RTab}(h:rt.map aB=rt'.map aB)(x:Chg):eU ts rt x=eU ts rt' x:=by
 have e3:∀c v,dF ts rt c v=dF ts rt' c v:=fun c v=>by unfold dF;rw[kQ,kQ,h]
 have e4:ig ts rt (cz ts x.table) x.row=ig ts rt' (cz ts x.table) x.row:=by unfold ig;simp only[e3]
 have e5:kJ ts rt (cz ts x.table) x.column x.val=kJ ts rt' (cz ts x.table) x.column x.val:=by
  unfold kJ
  split
  ·exact e3 _ _
  ·rfl
 unfold eU
 rw[kQ,kQ,su,su,e4,e5,h]
theorem Md{ts:List Tab}{x:Chg}(h:bq ts x=0):1≤x.seq:=by
 have h1:=(lW h).1
 unfold bC at h1
 rw[Bool.or_eq_false_iff]at h1
 have hh:=h1.1
 unfold eO at hh
 simp only[Bool.or_eq_false_iff,Bool.not_eq_false']at hh
 have h2:=hh.1.1.2
 unfold aD at h2
 simp only[Bool.and_eq_true,decide_eq_true_eq]at h2
 exact h2.1
theorem N9{l:List Chg}{n:Nat}(hn:n≤l.length)(h:∀i (hi:i<l.length),i<n→∀h0:0<i,rE (l[i-1]' omA) l[i]=true):∀i (hi:i<l.length),i<n→∀y∈l.take i,y.seq<l[i].seq:=by
 intro i
 induction i with
 | zero=>intro hi _ y hy;simp at hy
 | succ i ih =>
   intro hi hin y hy
   have h1:=h (i+1) hi hin omA
   unfold rE at h1
   simp only[Bool.and_eq_true,decide_eq_true_eq,Nat.add_sub_cancel]at h1
   rw[List.take_succ_eq_append_getElem omA]at hy
   rcases List.mem_append.1 hy with h2|h2
   ·have:=ih omA omA y h2
    omega
   ·rw[List.mem_singleton.1 h2]
    exact h1.1
theorem rD{ts:List Tab}{l:List Chg}(hok:aV ts){n:Nat}(hn:n≤l.length)(h:∀i (hi:i<l.length),i<n→pO ts l i hi):∀i,i≤n→jZ ts (l.take i) (aS ts (l.take i)):=by
 intro i
 induction i with
 | zero=>intro _;rw[List.take_zero];exact jZ.nil
 | succ i ih =>
   intro hi
   have hil:i<l.length:=by omega
   have hc:=ih omA
   obtain⟨hf,hfo,hst⟩:=h i hil omA
   have hlp:=lift_pure (aS ts (l.take i))
   have hch:eG ts ((aS ts (l.take i)).map zU) l[i]=0:=by
    have h1:pb (bf ts ((aS ts (l.take i)).map zU))=true:=iH.2 (POk.back hok (by rw[hlp];exact hc.ok))
    have h2:decide (l[i].seq≤fH ((aS ts (l.take i)).map zU))=false:=by
     refine xJ (Md hf) fun t ht r hr h0 =>?_
     have h3:=Ke (P:=fun s=>s<l[i].seq) (l:=l.take i) (ts:=ts) hlp (fun y hy=>N9 hn (fun j hj hjn h0=>(h j hj hjn).2.1 h0) i hil omA y hy) t ht r hr
     have h4:=(xE h0 (b:=l[i].seq-1)).2 fun y hy=>by have:=h3 y hy;omega
     omega
    unfold eG
    rw[h1,if_neg spA,hf,if_neg spA,h2,if_neg spA]
    exact hst _ hlp
   rw[List.take_succ_eq_append_getElem hil,(show aS ts (l.take i ++ [l[i]])=aP (aS ts (l.take i)) l[i] from by
    rw[←List.take_succ_eq_append_getElem hil,iE ts hil,if_pos hf])]
   exact hc.snoc hlp hch
theorem Iy{n:Nat}(P:Nat→Prop):(∀i,i<n→P i) ∨ ∃k,k<n∧(∀i,i<k→P i) ∧ ¬ P k:=by
 induction n with
 | zero=>exact .inl fun i h=>by omega
 | succ n ih =>
   rcases ih with h|⟨k,h1,h2,h3⟩
   ·by_cases hp:P n
    ·refine .inl fun i hi =>?_
     rcases Nat.lt_or_ge i n with h4|h4
     ·exact h i h4
     ·obtain rfl:i=n:=by omega
      exact hp
    ·exact .inr ⟨n,by omega,h,hp⟩
   ·exact .inr ⟨k,by omega,h2,h3⟩
theorem QX{ts:List Tab}{l:List Chg}{i:Nat}(hi:i<l.length)(h:¬ pO ts l i hi):∃z,Ea ts l i hi z:=by
 have hi1:i-1<l.length:=Nat.lt_of_le_of_lt (Nat.sub_le _ _) hi
 by_cases hf:bq ts l[i]=0
 rotate_left
 ·exact⟨_,hf,.inl rfl⟩
 by_cases hfo:0<i→rE (l[i-1]'hi1) l[i]=true
 rotate_left
 ·have h0:0<i:=Nat.pos_of_ne_zero fun h1=>hfo fun h2=>absurd h1 (Nat.ne_of_gt h2)
  refine⟨12,by decide,.inr ⟨hf,.inl ⟨h0,?_,rfl⟩⟩⟩
  cases hb:rE (l[i-1]'hi1) l[i]
  ·rfl
  ·exact absurd (fun _=>hb) hfo
 refine⟨eU ts ((aS ts (l.take i)).map zU) l[i],fun hz=>h ⟨hf,hfo,fun rt hrt =>?_⟩,.inr ⟨hf,.inr ⟨hfo,fun rt hrt =>?_⟩⟩⟩
 ·exact(qU (hrt.trans (lift_pure _).symm) _).trans hz
 ·exact qU (hrt.trans (lift_pure _).symm) _
structure BK (ts:List Tab) (l:List Chg) (k:Nat) (z:Int):Prop where
 le:k≤l.length
 pok:∀i,i≤k→POk ts (aS ts (l.take i))
 good:∀i (h:i<l.length),i<k→pO ts l i h
 bad:∀h:k<l.length,Ea ts l k h z
theorem NG{ts:List Tab}(hok:aV ts)(l:List Chg):∃k z,BK ts l k z:=by
 rcases Iy (n:=l.length) (fun i =>∀h:i<l.length,pO ts l i h) with h|⟨k,h1,h2,h3⟩
 ·exact⟨l.length,0,Nat.le_refl _,fun i hi=>(rD hok nlr (fun i hi _=>h i hi hi) i hi).ok,fun i hi _=>h i hi hi,fun h=>by omega⟩
 ·obtain⟨z,hz⟩:=QX h1 (fun hg=>h3 fun _=>hg)
  exact⟨k,z,by omega,fun i hi=>(rD hok (Nat.le_of_lt h1) (fun i hi hik=>h2 i hik hi) i hi).ok,fun i hi hik=>h2 i hik hi,fun _=>hz⟩
noncomputable def xZ(l:List Chg)(k:Nat)(z:Int):Int × Int:=if k<l.length then ((k:Int),z) else (0,0)
theorem CZ{ts:List Tab}{l:List Chg}{k:Nat}{z:Int}(h:BK ts l k z):(k<l.length∧(xZ l k z).1=k∧(xZ l k z).2=z)∨(k=l.length∧(xZ l k z).1=0∧(xZ l k z).2=0):=by
 unfold xZ
 have:=h.le
 by_cases hk:k<l.length
 ·rw[if_pos hk];exact .inl ⟨hk,rfl,rfl⟩
 ·rw[if_neg hk];exact .inr ⟨by omega,rfl,rfl⟩
theorem rG{ts:List Tab}{l:List Chg}{pl:List (List bu)}(h:jZ ts l pl)(ho:l.Pairwise (fun a b=>a.seq<b.seq∧a.day≤b.day))(i:Nat)(hi:i<l.length):pO ts l i hi:=by
 obtain⟨rt,h1,h2⟩:=h.at_ i hi
 have hf:=(pJ h2).2
 refine⟨hf,fun h0 =>?_,fun rt' h3 =>?_⟩
 ·have h4:=List.pairwise_iff_getElem.1 ho (i-1) i omA hi omA
  unfold rE
  simp only[Bool.and_eq_true,decide_eq_true_eq]
  exact h4
 ·rw[qU (h3.trans h1.symm)]
  unfold eG at h2
  split at h2
  ·cases h2
  ·split at h2
   ·rename_i h5
    rw[h2]at h5
    cases h5
   ·split at h2
    ·cases h2
    ·exact h2
theorem FE{ts:List Tab}{l:List Chg}{pl:List (List bu)}(hok:aV ts)(h:jZ ts l pl)(ho:l.Pairwise (fun a b=>a.seq<b.seq∧a.day≤b.day)):BK ts l l.length 0:=
 ⟨Nat.le_refl _,fun i hi=>(rD hok nlr (fun i hi _=>rG h ho i hi) i hi).ok,fun i hi _=>rG h ho i hi,fun h=>by omega⟩
theorem IP{ts:List Tab}{l:List Chg}{pl:List (List bu)}(hok:aV ts)(h:jZ ts l pl)(ho:l.Pairwise (fun a b=>a.seq<b.seq∧a.day≤b.day))(hl:l.length≤1024):kC ts l:=
 ⟨hok,hl,fun i hi=>⟨(rG h ho i hi).1,fun h0=>List.pairwise_iff_getElem.1 ho (i-1) i omA hi omA⟩⟩
open Go.RowKit Go
variable {o:Oth}
theorem yY(A:Option Addr)(c m:Nat)(ts:List Tab)(LA:Option Addr)(lc n:Nat)(l:List Chg)(w:World)(ht:aJ w w.heap.size A ts)(hm:ts.length=m)(hs:aI ts)(hok:aV ts)(hcg:dZ w w.heap.size A c ts o)(hl:dh w w.heap.size LA l)(hn:l.length=n)(hn6:n≤1024)(hrow:∀x∈l,x.row.length≤1000000)(k:Nat)(z:Int)(hh:BK ts l k z){ra rb:Int}(hres:(k<l.length∧ra=k∧rb=z)∨(k=l.length∧ra=0∧rb=0)):
 Calls Tryz.prog 77 #[.agg #[.slice A m c,.slice o.vA 0 o.vc,.slice o.iA o.idx.length o.ic,.slice o.sA o.skt.length o.sc,.slice o.cA o.cch.length o.cc,.slice o.rA o.rel.length o.rc,.slice o.tA o.str.length o.tc,.slice o.bA o.bak.length o.bc],.slice LA n lc] w fun e w'=>e=.returned (.tuple #[.int .i64 ra,.int .i64 rb])∧Below w.heap.size w w':=by
 subst hm hn
 have h8:=hok.len
 have hk:=hh.le
 have HT:=qh ht
 have HS:=qh hs
 have HOK:=qh hok
 have HCG:=qh hcg
 have HL:=qh hl
 have jy:=qh hrow
 have HH:=qh hh
 have bg:=qh hres
 have E9:decide (1024<l.length)=false:=by simp;omega
 have Lh:decide ((1024:Int)<(l.length:Int))=false:=by simp;omega
 clear ht hs hok hcg hl hrow hh hres
 go_enter Tryz.func77,Tryz.ntmps77
 go_wp2_with fail
 (with_reducible refine(HCG.out.ref _ ak).mono ?_)
 rintro e w0 ⟨rfl,hb0⟩
 have hx0:Below w.heap.size w w0:=ae ak hb0 leA
 have hB0:Blk w0 w.heap.size 39 #[.slice A ts.length c,.slice o.vA 0 o.vc,.slice o.iA o.idx.length o.ic,.slice o.sA o.skt.length o.sc,.slice o.cA o.cch.length o.cc,.slice o.rA o.rel.length o.rc,.slice o.tA o.str.length o.tc,.slice o.bA o.bak.length o.bc]:=(Blk.new _ _ _).below hb0 spA
 have Ur:=hB0.lt
 have HB0:=qh hB0
 obtain⟨p0,p1,p2,p3,p4,p5,p6,p7⟩:=Cat.aZ hB0
 clear hB0 hb0
 go_wp2_with fail
 (with_reducible refine(uu A c ts.length ts _ (HT.out.next hx0) rfl HS.out HOK.out (HCG.out.next hx0)).mono ?_)
 rintro e W ⟨⟨q,rfl,hq,hr⟩,hb1⟩
 have hbW:Below w.heap.size w W:=ae hx0 hb1 hx0.size
 have HBK:=qh (HB0.out.below hb1 Ur)
 have HR:=qh hr
 have hzW:=hbW.size
 have hzB:w.heap.size<W.heap.size:=by have:=hb1.size;omega
 clear p0 p1 p2 p3 p4 p5 p6 p7
 clear hr hb1 hq HB0 E9 Lh
 go_wp2_with fail
 go_loopw [6,7] (fun vt vi wr =>∃(i:Nat) (RA:Option Addr) (rc:Nat) (rt:List RTab),i≤k∧vi=.int .i64 i∧vt=.slice RA ts.length rc∧rt.length=ts.length∧aR wr wr.heap.size RA rt∧dX ts rt∧rt.map aB=aS ts (l.take i)∧Below W.heap.size W wr) (fun _ vi _=>l.length-(intOf vi).toNat)
 case atStart=>exact⟨0,_,_,_,Nat.zero_le _,rfl,rfl,by simp,HR.out,dX.zero ts,by simp[aS,aB,dH],Below.refl _ _⟩
 case round =>
  obtain⟨i,RA,rc,rt,hi,rfl,rfl,hrl,hrt,hsh,hpu,hbr⟩:=hrel
  have hwz:=hbr.size
  have hxr:=ae hbW hbr hbW.size
  have hxz:=hxr.size
  have HRT:=qh hrt
  have HSH:=qh hsh
  have HPU:=qh hpu
  have HRL:=qh hrl
  clear hrt hsh hpu hrl
  by_cases hlt:i<l.length
  ·obtain⟨b,o9,rfl,hb,hc⟩:=(HL.out.1.below hxr).get hlt
   have hblt:b<wr.heap.size:=by omega
   have sZ:=HL.out.2 l[i] (lgm hlt)
   have hrl:=jy.out l[i] (lgm hlt)
   have hsu:=iE ts hlt
   have hgd:i<k→pO ts l i hlt:=HH.out.good i hlt
   have hbd:¬ i<k→Ea ts l i hlt z:=fun h=>by
    obtain rfl:i=k:=by omega
    exact HH.out.bad hlt
   have hrs:¬ i<k→ra=i∧rb=z:=fun h=>by
    obtain rfl:i=k:=by omega
    rcases bg.out with h1|h1
    ·exact h1.2
    ·omega
   unfold pO at hgd
   unfold Ea at hbd
   obtain⟨⟨kd,sq,dy,tb,A0,cp,row,key,cl,vl⟩,hy⟩:∃x:Chg,l[i]=x:=⟨_,rfl⟩
   rw[hy]at hc sZ hrl hsu hgd hbd
   simp only at sZ hrl
   have HCC:=qh hc
   have HRI:=qh sZ
   have HSU:=qh hsu
   have HGD:=qh hgd
   have HBD:=qh hbd
   have HRS:=qh hrs
   clear hc hy sZ hsu hgd hbd hrs
   obtain⟨z0,hz⟩:∃z0,bq ts ⟨kd,sq,dy,tb,A0,cp,row,key,cl,vl⟩=z0:=⟨_,rfl⟩
   have HZ:=qh hz
   have HFC:Hid (∀x:bH wr,Calls Tryz.prog 55 #[.agg #[.slice A ts.length c,.slice o.vA 0 o.vc,.slice o.iA o.idx.length o.ic,.slice o.sA o.skt.length o.sc,.slice o.cA o.cch.length o.cc,.slice o.rA o.rel.length o.rc,.slice o.tA o.str.length o.tc,.slice o.bA o.bak.length o.bc],.agg #[.int .i64 kd,.int .i64 sq,.int .i64 dy,.int .i64 tb,.slice A0 row.length cp,.int .i64 key.kind,.int .i64 key.num,.string key.text,.int .i64 cl,.int .i64 vl.kind,.int .i64 vl.num,.string vl.text]] x.u fun e w''=>e=.returned (.int .i64 z0) ∧ ∃y:bH wr,w''=y.u):=qh fun x=>bN (kY A c ts.length ts kd sq dy tb A0 cp row key cl vl x.u (HT.out.next (ae hxr x.h hxr.size)) rfl HS.out HOK.out (HCG.out.next (ae hxr x.h hxr.size)) (HRI.out.next (ae hxr x.h hxr.size)) hrl hz)
   clear hz
   have hrr:Below wr.heap.size wr wr:=Below.refl _ _
   obtain⟨p0,p1,p2,p3,p4,p5,p6,p7⟩:=Cat.aZ (HBK.out.below (hbr) hzB)
   obtain⟨⟨q0,q1,q2,q3⟩,q4,⟨q5,q6,q7⟩,q8,q9,q10,q11⟩:=Chg.dE (b:=b) (o:=o9+i*12) (x:=⟨kd,sq,dy,tb,A0,cp,row,key,cl,vl⟩) (fun j u hu=>((hrr).cell (p:=⟨b,o9+i*12+j,none⟩) hblt).trans (HCC.out j u hu))
   simp only at q0 q1 q2 q3 q4 q5 q6 q7 q8 q9 q10 q11
   have hk0:=aH (w:=wr) w.heap.size omA
   have hk1:=aH (w:=wr) b omA
   go_upto_region 9 with (fail)
   refine ag krA krA ?_;(repeat(go_big_quiet_step ((go_at_call 55;with_reducible exact HFC.out _))));refine wpQuiet_nil ?_;intro wq hq
   have HQ1:=qh hq
   have R9:=hq.size
   clear hk0 hk1 HFC hrr
   clear q0 q1 q2 q3 q4 q5 q6 q7 q8 q9 q10 q11
   clear p0 p1 p2 p3 p4 p5 p6 p7
   have EW:=ae hxr HQ1.out hxr.size
   have UG:=HQ1.out
   by_cases hz0:z0=0
   rotate_left
   ·have hz0':(z0 != 0)=true:=by simpa using hz0
    have Wl:(z0 == 0)=false:=by simpa using hz0
    have hnk:¬ i<k:=fun h=>hz0 (HZ.out.symm.trans (HGD.out h).1)
    have HZR:Hid (ra=i∧rb=z0):=qh (by
     obtain⟨h1,h2⟩:=HRS.out hnk
     refine⟨h1,h2.trans ?_⟩
     rcases(HBD.out hnk).2 with h3|⟨h3,_⟩
     ·exact h3.symm.trans HZ.out
     ·exact absurd (HZ.out.symm.trans h3) hz0)
    clear hz0 hnk
    go_upto_region 10 with (fail)
    refine ag krA krA ?_;(repeat(go_big_quiet_step (fail)));refine wpQuiet_nil ?_;intro wq2 hq2
    (
    go_wp2_with fail
    go_ret2
    obtain⟨h1,h2⟩:=HZR.out
    subst h1 h2
    exact⟨rfl,ae EW hq2 EW.size⟩)
   subst hz0
   obtain⟨t,hin⟩:=gD HZ.out
   have htb:tb=(t:Int):=hin.tab
   subst htb
   have HIN:=qh hin
   have HYE:Hid (aS ts (l.take (i+1))=aP (aS ts (l.take i)) ⟨kd,sq,dy,(t:Int),A0,cp,row,key,cl,vl⟩):=qh (by rw[HSU.out,if_pos HZ.out])
   clear hin
   have hk0:=aH (w:=wq) w.heap.size omA
   have hk1:=aH (w:=wq) b omA
   have hi1:i-1<l.length:=Nat.lt_of_le_of_lt (Nat.sub_le _ _) hlt
   by_cases h0:0<i
   ·have hkz:decide ((0:Int)<(i:Int))=true:=by simp;omega
    have j5:decide (0<i)=true:=by simpa using h0
    have oC:i-1<l.length:=by omega
    have lu:decide (i-1<l.length)=true:=by simpa using oC
    have hwrap:IntKind.i64.wrap ((i:Int)-1)=((i-1:Nat):Int):=by rw[show (i:Int)-1=((i-1:Nat):Int) by omega];exact IntWalk.i64_in _ omA
    obtain⟨b3,o3,he3,_,hc3⟩:=(HL.out.1.below EW).get oC
    injection he3 with he3
    injection he3 with he4 he5
    subst he4 he5
    obtain⟨⟨_,f1,f2,_⟩,_,_,_,_,_,_⟩:=Chg.dE hc3
    obtain⟨ps,hps⟩:∃s,l[i-1].seq=s:=⟨_,rfl⟩
    obtain⟨pd,hpd⟩:∃s,l[i-1].day=s:=⟨_,rfl⟩
    rw[hps]at f1
    rw[hpd]at f2
    have HF0:Hid (rE l[i-1] ⟨kd,sq,dy,(t:Int),A0,cp,row,key,cl,vl⟩=(decide (ps<sq)&&decide (pd≤dy))):=qh (by unfold rE;rw[hps,hpd])
    clear hc3 hps hpd
    obtain⟨⟨q0,q1,q2,q3⟩,q4,⟨q5,q6,q7⟩,q8,q9,q10,q11⟩:=Chg.dE (b:=b) (o:=o9+i*12) (x:=⟨kd,sq,dy,(t:Int),A0,cp,row,key,cl,vl⟩) (fun j u hu=>((UG).cell (p:=⟨b,o9+i*12+j,none⟩) hblt).trans (HCC.out j u hu))
    simp only at q0 q1 q2 q3 q4 q5 q6 q7 q8 q9 q10 q11
    cases h1:decide (sq≤ps)
    rotate_left
    ·have HFX:Hid (rE l[i-1] ⟨kd,sq,dy,(t:Int),A0,cp,row,key,cl,vl⟩=false):=qh (by
      rw[HF0.out]
      have h3:=of_decide_eq_true h1
      have h4:decide (ps<sq)=false:=by simp;omega
      rw[h4];rfl)
     (
     have hnk:¬ i<k:=fun h=>absurd ((HGD.out h).2.1 h0) fk
     have HZR:Hid (ra=i∧rb=12):=qh (by
      (
      obtain⟨h1,h2⟩:=HRS.out hnk
      refine⟨h1,h2.trans ?_⟩
      obtain⟨hz,h3|⟨h3,⟨_,h4,h5⟩|⟨h4,_⟩⟩⟩:=HBD.out hnk
      ·exact absurd (h3.symm.trans HZ.out) hz
      ·exact h5
      ·exact absurd (h4 h0) fk))
     clear h0 hnk
     go_upto_region 10 with (fail)
     refine ag krA krA ?_;(repeat(go_big_quiet_step (fail)));refine wpQuiet_nil ?_;intro wq2 hq2
     clear f1 f2 hkz j5 lu hwrap h1 hk0 hk1
     clear q0 q1 q2 q3 q4 q5 q6 q7 q8 q9 q10 q11
     (
     go_wp2_with fail
     go_ret2
     obtain⟨h1,h2⟩:=HZR.out
     subst h1 h2
     exact⟨rfl,ae EW hq2 EW.size⟩))
    cases h2:decide (dy<pd)
    rotate_left
    ·have HFX:Hid (rE l[i-1] ⟨kd,sq,dy,(t:Int),A0,cp,row,key,cl,vl⟩=false):=qh (by
      rw[HF0.out]
      have h3:=of_decide_eq_true h2
      have h4:decide (pd≤dy)=false:=by simp;omega
      rw[h4,Bool.and_false])
     (
     have hnk:¬ i<k:=fun h=>absurd ((HGD.out h).2.1 h0) fk
     have HZR:Hid (ra=i∧rb=12):=qh (by
      (
      obtain⟨h1,h2⟩:=HRS.out hnk
      refine⟨h1,h2.trans ?_⟩
      obtain⟨hz,h3|⟨h3,⟨_,h4,h5⟩|⟨h4,_⟩⟩⟩:=HBD.out hnk
      ·exact absurd (h3.symm.trans HZ.out) hz
      ·exact h5
      ·exact absurd (h4 h0) fk))
     clear h0 hnk
     go_upto_region 10 with (fail)
     refine ag krA krA ?_;(repeat(go_big_quiet_step (fail)));refine wpQuiet_nil ?_;intro wq2 hq2
     clear f1 f2 hkz j5 lu hwrap h1 hk0 hk1
     clear q0 q1 q2 q3 q4 q5 q6 q7 q8 q9 q10 q11
     (
     go_wp2_with fail
     go_ret2
     obtain⟨h1,h2⟩:=HZR.out
     subst h1 h2
     exact⟨rfl,ae EW hq2 EW.size⟩))
    have HFO:Hid (0<i→rE (l[i-1]'hi1) ⟨kd,sq,dy,(t:Int),A0,cp,row,key,cl,vl⟩=true):=qh (fun _=>by
     rw[HF0.out]
     have h3:=of_decide_eq_false h1
     have h4:=of_decide_eq_false h2
     have h5:decide (ps<sq)=true:=by simp;omega
     have h6:decide (pd≤dy)=true:=by simp;omega
     rw[h5,h6];rfl)
    clear h0
    go_upto_region 10 with (fail)
    refine ag krA krA ?_;(repeat(go_big_quiet_step (fail)));refine wpQuiet_nil ?_;intro wq2 hq2
    clear f1 f2 hkz j5 lu hwrap h1 h2 hk0 hk1
    clear q0 q1 q2 q3 q4 q5 q6 q7 q8 q9 q10 q11
    have oD:Below wr.heap.size wr wq2:=ae HQ1.out hq2 R9
    have hxq:=ae hxr oD hxr.size
    have hqz:=oD.size
    obtain⟨s,hs⟩:∃s,eU ts rt ⟨kd,sq,dy,(t:Int),A0,cp,row,key,cl,vl⟩=s:=⟨_,rfl⟩
    have HST:=qh hs
    have HSC:Hid (∀x:bH wq2,Calls Tryz.prog 125 #[.agg #[.slice A ts.length c,.slice o.vA 0 o.vc,.slice o.iA o.idx.length o.ic,.slice o.sA o.skt.length o.sc,.slice o.cA o.cch.length o.cc,.slice o.rA o.rel.length o.rc,.slice o.tA o.str.length o.tc,.slice o.bA o.bak.length o.bc],.slice RA ts.length rc,.agg #[.int .i64 kd,.int .i64 sq,.int .i64 dy,.int .i64 (t:Int),.slice A0 row.length cp,.int .i64 key.kind,.int .i64 key.num,.string key.text,.int .i64 cl,.int .i64 vl.kind,.int .i64 vl.num,.string vl.text]] x.u fun e w''=>e=.returned (.int .i64 s) ∧ ∃y:bH wq2,w''=y.u):=qh fun x=>bN (oL A c ts.length ts RA rc ts.length rt t kd sq dy A0 cp row key cl vl x.u (HT.out.next (ae hxq x.h hxq.size)) rfl HS.out HOK.out (HCG.out.next (ae hxq x.h hxq.size)) (HRT.out.next (ae oD x.h oD.size)) HRL.out (HSH.out.bZ HOK.out) HRL.out (HRI.out.next (ae hxq x.h hxq.size)) hrl HIN.out hs)
    clear hs
    obtain⟨p0,p1,p2,p3,p4,p5,p6,p7⟩:=Cat.aZ (HBK.out.below (ae hbr oD hwz) hzB)
    obtain⟨⟨q0,q1,q2,q3⟩,q4,⟨q5,q6,q7⟩,q8,q9,q10,q11⟩:=Chg.dE (b:=b) (o:=o9+i*12) (x:=⟨kd,sq,dy,(t:Int),A0,cp,row,key,cl,vl⟩) (fun j u hu=>((oD).cell (p:=⟨b,o9+i*12+j,none⟩) hblt).trans (HCC.out j u hu))
    simp only at q0 q1 q2 q3 q4 q5 q6 q7 q8 q9 q10 q11
    have hk0:=aH (w:=wq2) w.heap.size omA
    have hk1:=aH (w:=wq2) b omA
    go_upto_region 13 with (fail)
    refine ag krA krA ?_;(repeat(go_big_quiet_step ((go_at_call 125;with_reducible exact HSC.out _))));refine wpQuiet_nil ?_;intro wq3 hq3
    clear hk0 hk1
    clear q0 q1 q2 q3 q4 q5 q6 q7 q8 q9 q10 q11
    clear p0 p1 p2 p3 p4 p5 p6 p7
    have hxs:=ae hxq hq3 hxq.size
    have Ff:=ae oD hq3 oD.size
    have UE:=hq3.size
    by_cases hs0:s=0
    rotate_left
    ·have K6:(s != 0)=true:=by simpa using hs0
     have hnk:¬ i<k:=fun h=>hs0 (HST.out.symm.trans ((HGD.out h).2.2 rt HPU.out))
     have HZR:Hid (ra=i∧rb=s):=qh (by
      obtain⟨h1,h2⟩:=HRS.out hnk
      refine⟨h1,h2.trans ?_⟩
      obtain⟨hz,h3|⟨h3,⟨h0,h4,h5⟩|⟨_,h4⟩⟩⟩:=HBD.out hnk
      ·exact absurd (h3.symm.trans HZ.out) hz
      ·exact absurd (HFO.out h0) fl
      ·exact(h4 rt HPU.out).symm.trans HST.out)
     clear hs0 hnk
     (
     go_wp2_with fail
     go_ret2
     obtain⟨h1,h2⟩:=HZR.out
     subst h1 h2
     exact⟨rfl,hxs⟩)
    subst hs0
    have hik:i<k:=by
     rcases Nat.lt_or_ge i k with h|h
     ·exact h
     ·exfalso
      have hnk:¬ i<k:=by omega
      obtain⟨hz,h3|⟨h3,⟨h0,h4,h5⟩|⟨_,h4⟩⟩⟩:=HBD.out hnk
      ·exact hz (h3.symm.trans HZ.out)
      ·exact absurd (HFO.out h0) fl
      ·exact hz ((h4 rt HPU.out).symm.trans HST.out)
    obtain⟨⟨q0,q1,q2,q3⟩,q4,⟨q5,q6,q7⟩,q8,q9,q10,q11⟩:=Chg.dE (b:=b) (o:=o9+i*12) (x:=⟨kd,sq,dy,(t:Int),A0,cp,row,key,cl,vl⟩) (fun j u hu=>((Ff).cell (p:=⟨b,o9+i*12+j,none⟩) hblt).trans (HCC.out j u hu))
    simp only at q0 q1 q2 q3 q4 q5 q6 q7 q8 q9 q10 q11
    go_wp2_with (go_at_call 56;(with_reducible refine(jP ts RA rc ts.length rt t kd sq dy t A0 cp row key cl vl _ (HRT.out.next Ff) HRL.out HSH.out HOK.out (HRI.out.next hxs) HIN.out).mono ?_);rintro e w3 ⟨⟨RA2,rc2,rt2,rfl,hl2,hr2,hu2,hp2⟩,hb3⟩;have HR2:=qh hr2;have HP2:=qh hp2;clear hr2 hp2 hu2)
    clear q0 q1 q2 q3 q4 q5 q6 q7 q8 q9 q10 q11
    have hz3:=hb3.size
    go_roundw
    case rel=>exact⟨i+1,RA2,rc2,rt2,by omega,by go_num,rfl,hl2,HR2.out,(show fK ts (rt2.map aB) by rw[HP2.out];exact fK.oq HSH.out HIN.out),by rw[HP2.out,HYE.out,HPU.out],ae (ae hbr Ff hwz) hb3 omA⟩
    case measure=>exact meA
   ·have hkz:decide ((0:Int)<(i:Int))=false:=by simp;omega
    have j5:decide (0<i)=false:=by simpa using h0
    have HFO:Hid (0<i→rE (l[i-1]'hi1) ⟨kd,sq,dy,(t:Int),A0,cp,row,key,cl,vl⟩=true):=qh fun h=>absurd h h0
    clear h0
    go_upto_region 10 with (fail)
    refine ag krA krA ?_;(repeat(go_big_quiet_step (fail)));refine wpQuiet_nil ?_;intro wq2 hq2
    clear hkz j5 hk0 hk1
    have oD:Below wr.heap.size wr wq2:=ae HQ1.out hq2 R9
    have hxq:=ae hxr oD hxr.size
    have hqz:=oD.size
    obtain⟨s,hs⟩:∃s,eU ts rt ⟨kd,sq,dy,(t:Int),A0,cp,row,key,cl,vl⟩=s:=⟨_,rfl⟩
    have HST:=qh hs
    have HSC:Hid (∀x:bH wq2,Calls Tryz.prog 125 #[.agg #[.slice A ts.length c,.slice o.vA 0 o.vc,.slice o.iA o.idx.length o.ic,.slice o.sA o.skt.length o.sc,.slice o.cA o.cch.length o.cc,.slice o.rA o.rel.length o.rc,.slice o.tA o.str.length o.tc,.slice o.bA o.bak.length o.bc],.slice RA ts.length rc,.agg #[.int .i64 kd,.int .i64 sq,.int .i64 dy,.int .i64 (t:Int),.slice A0 row.length cp,.int .i64 key.kind,.int .i64 key.num,.string key.text,.int .i64 cl,.int .i64 vl.kind,.int .i64 vl.num,.string vl.text]] x.u fun e w''=>e=.returned (.int .i64 s) ∧ ∃y:bH wq2,w''=y.u):=qh fun x=>bN (oL A c ts.length ts RA rc ts.length rt t kd sq dy A0 cp row key cl vl x.u (HT.out.next (ae hxq x.h hxq.size)) rfl HS.out HOK.out (HCG.out.next (ae hxq x.h hxq.size)) (HRT.out.next (ae oD x.h oD.size)) HRL.out (HSH.out.bZ HOK.out) HRL.out (HRI.out.next (ae hxq x.h hxq.size)) hrl HIN.out hs)
    clear hs
    obtain⟨p0,p1,p2,p3,p4,p5,p6,p7⟩:=Cat.aZ (HBK.out.below (ae hbr oD hwz) hzB)
    obtain⟨⟨q0,q1,q2,q3⟩,q4,⟨q5,q6,q7⟩,q8,q9,q10,q11⟩:=Chg.dE (b:=b) (o:=o9+i*12) (x:=⟨kd,sq,dy,(t:Int),A0,cp,row,key,cl,vl⟩) (fun j u hu=>((oD).cell (p:=⟨b,o9+i*12+j,none⟩) hblt).trans (HCC.out j u hu))
    simp only at q0 q1 q2 q3 q4 q5 q6 q7 q8 q9 q10 q11
    have hk0:=aH (w:=wq2) w.heap.size omA
    have hk1:=aH (w:=wq2) b omA
    go_upto_region 13 with (fail)
    refine ag krA krA ?_;(repeat(go_big_quiet_step ((go_at_call 125;with_reducible exact HSC.out _))));refine wpQuiet_nil ?_;intro wq3 hq3
    clear hk0 hk1
    clear q0 q1 q2 q3 q4 q5 q6 q7 q8 q9 q10 q11
    clear p0 p1 p2 p3 p4 p5 p6 p7
    have hxs:=ae hxq hq3 hxq.size
    have Ff:=ae oD hq3 oD.size
    have UE:=hq3.size
    by_cases hs0:s=0
    rotate_left
    ·have K6:(s != 0)=true:=by simpa using hs0
     have hnk:¬ i<k:=fun h=>hs0 (HST.out.symm.trans ((HGD.out h).2.2 rt HPU.out))
     have HZR:Hid (ra=i∧rb=s):=qh (by
      obtain⟨h1,h2⟩:=HRS.out hnk
      refine⟨h1,h2.trans ?_⟩
      obtain⟨hz,h3|⟨h3,⟨h0,h4,h5⟩|⟨_,h4⟩⟩⟩:=HBD.out hnk
      ·exact absurd (h3.symm.trans HZ.out) hz
      ·exact absurd (HFO.out h0) fl
      ·exact(h4 rt HPU.out).symm.trans HST.out)
     clear hs0 hnk
     (
     go_wp2_with fail
     go_ret2
     obtain⟨h1,h2⟩:=HZR.out
     subst h1 h2
     exact⟨rfl,hxs⟩)
    subst hs0
    have hik:i<k:=by
     rcases Nat.lt_or_ge i k with h|h
     ·exact h
     ·exfalso
      have hnk:¬ i<k:=by omega
      obtain⟨hz,h3|⟨h3,⟨h0,h4,h5⟩|⟨_,h4⟩⟩⟩:=HBD.out hnk
      ·exact hz (h3.symm.trans HZ.out)
      ·exact absurd (HFO.out h0) fl
      ·exact hz ((h4 rt HPU.out).symm.trans HST.out)
    obtain⟨⟨q0,q1,q2,q3⟩,q4,⟨q5,q6,q7⟩,q8,q9,q10,q11⟩:=Chg.dE (b:=b) (o:=o9+i*12) (x:=⟨kd,sq,dy,(t:Int),A0,cp,row,key,cl,vl⟩) (fun j u hu=>((Ff).cell (p:=⟨b,o9+i*12+j,none⟩) hblt).trans (HCC.out j u hu))
    simp only at q0 q1 q2 q3 q4 q5 q6 q7 q8 q9 q10 q11
    go_wp2_with (go_at_call 56;(with_reducible refine(jP ts RA rc ts.length rt t kd sq dy t A0 cp row key cl vl _ (HRT.out.next Ff) HRL.out HSH.out HOK.out (HRI.out.next hxs) HIN.out).mono ?_);rintro e w3 ⟨⟨RA2,rc2,rt2,rfl,hl2,hr2,hu2,hp2⟩,hb3⟩;have HR2:=qh hr2;have HP2:=qh hp2;clear hr2 hp2 hu2)
    clear q0 q1 q2 q3 q4 q5 q6 q7 q8 q9 q10 q11
    have hz3:=hb3.size
    go_roundw
    case rel=>exact⟨i+1,RA2,rc2,rt2,by omega,by go_num,rfl,hl2,HR2.out,(show fK ts (rt2.map aB) by rw[HP2.out];exact fK.oq HSH.out HIN.out),by rw[HP2.out,HYE.out,HPU.out],ae (ae hbr Ff hwz) hb3 omA⟩
    case measure=>exact meA
  ·have hlt':decide (i<l.length)=false:=by simpa using hlt
   have WN:decide ((i:Int)<(l.length:Int))=false:=by simp;omega
   have HZR:Hid (ra=0∧rb=0):=qh (by
    rcases bg.out with h1|h1
    ·omega
    ·exact h1.2)
   (
   go_wp2_with fail
   go_ret2
   obtain⟨h1,h2⟩:=HZR.out
   subst h1 h2
   exact⟨rfl,hxr⟩)
open Go.RowKit Go
variable {o:Oth}
structure mY (w:World) (B p mb fb:Nat) (A:Option Addr) (c:Nat) (ts:List Tab) (o:Oth) where
 u:World
 s:(∃F,gP w B p mb fb A c ts o F)→∃F,gP u B p mb fb A c ts o F
 g:w.grownBy u (some fb)
instance (w:World) (B p mb fb:Nat) (A:Option Addr) (c:Nat) (ts:List Tab) (o:Oth):Inhabited (mY w B p mb fb A c ts o):=⟨⟨w,fun h=>h,iy w _⟩⟩
section
variable {w:World}{B p mb fb:Nat}{A:Option Addr}{c:Nat}{ts:List Tab}
theorem jN{P:Program}{id:Nat}{Q:Exit→Act→World→Prop}{a:Act}{l:List Oper}(hm:P.follows .mixedOrders=true)(hB:Region.lexB .any l.toArray=true)
 (h:wpQuiet P l.toArray (fun w' =>∃x:mY w B p mb fb A c ts o,w'=x.u) (fun a' =>∀w',(∃x:mY w B p mb fb A c ts o,w'=x.u)→Q .normal a' w') l a):(Code.region id l.toArray true).wp P Q a w:=
 wp_region_quiet (C:=fun w' =>∃x:mY w B p mb fb A c ts o,w'=x.u) hm hB ⟨⟨w.drew,fun⟨F,h⟩=>⟨F,h.next brf.drew⟩,nM (iy w _)⟩,rfl⟩ (by simpa using h)
theorem OL(b:Nat)(hb:b<w.heap.size)(hne:b≠fb):∀(x:mY w B p mb fb A c ts o) (q:Nat),x.u.cell? ⟨b,q,none⟩=w.cell? ⟨b,q,none⟩:=
 fun x q=>World.cell?_of_block (x.g.block b hb (fun e=>by injection e with e;exact hne e))
theorem N8(kd sq dy tb:Int)(A0:Option Addr)(cp:Nat)(row:List Val)(key:Val)(cl:Int)(vl:Val)(w0:World)(x:mY w B p mb fb A c ts o)(hS:∃F,gP w B p mb fb A c ts o F)(h0:Below w0.heap.size w0 w)(hfb:w0.heap.size≤fb)(hT:aJ w0 w0.heap.size A ts)(hs:aI ts)(hok:aV ts)(hcg:dZ w0 w0.heap.size A c ts o)(hB:B≤w.heap.size)(hR:ah w0 w0.heap.size Val.cells 3 A0 row)(hrl:row.length≤1000000){r:Int}(hr:bq ts ⟨kd,sq,dy,tb,A0,cp,row,key,cl,vl⟩=r):
 Calls Tryz.prog 64 #[.pointer (some ⟨p,0,none⟩),.agg #[.int .i64 kd,.int .i64 sq,.int .i64 dy,.int .i64 tb,.slice A0 row.length cp,.int .i64 key.kind,.int .i64 key.num,.string key.text,.int .i64 cl,.int .i64 vl.kind,.int .i64 vl.num,.string vl.text]] x.u fun e w''=>e=.returned (.int .i64 r) ∧ ∃y:mY w B p mb fb A c ts o,w''=y.u:=by
 obtain⟨F,hF⟩:=x.s hS
 have hb:Below w0.heap.size w0 x.u:=Below.grown h0 x.g h0.size inB
 refine(iK B p mb fb A c ts F kd sq dy tb A0 cp row key cl vl x.u hF (hT.next hb) hs hok (hcg.next hb) (Nat.le_trans hB x.g.size) (hR.next hb) hrl hr).mono ?_
 rintro e u' ⟨rfl,⟨F',hF',_⟩,hg⟩
 exact⟨rfl,⟨u',fun _=>⟨F',hF'⟩,az x.g hg⟩,rfl⟩
theorem Fq(y z:Chg)(x:mY w B p mb fb A c ts o){r:Bool}(hr:(decide (y.seq<z.seq)&&decide (y.day≤z.day))=r):
 Calls Tryz.prog 74 #[.agg #[.int .i64 y.kind,.int .i64 y.seq,.int .i64 y.day,.int .i64 y.table,.slice y.A y.row.length y.cap,.int .i64 y.key.kind,.int .i64 y.key.num,.string y.key.text,.int .i64 y.column,.int .i64 y.val.kind,.int .i64 y.val.num,.string y.val.text],.agg #[.int .i64 z.kind,.int .i64 z.seq,.int .i64 z.day,.int .i64 z.table,.slice z.A z.row.length z.cap,.int .i64 z.key.kind,.int .i64 z.key.num,.string z.key.text,.int .i64 z.column,.int .i64 z.val.kind,.int .i64 z.val.num,.string z.val.text]] x.u fun e w''=>e=.returned (.bool r) ∧ ∃y:mY w B p mb fb A c ts o,w''=y.u:=by
 refine(vw y z x.u hr).mono ?_
 rintro e u' ⟨rfl,hb⟩
 exact⟨rfl,⟨u',fun h=>by obtain⟨F,hF⟩:=x.s h;exact⟨F,hF.next hb⟩,vP x.g hb⟩,rfl⟩
end
theorem iQ(w:World):CallsD Tryz.prog 76 #[] .returning w fun e u' w'=>e=.returned (.tuple #[])∧u'=.returning∧w'=w:=by
 refine callsD_of_wpS Tryz.func76 rfl fun c₀ cs hu =>?_
 apply wpS_region
 cases c₀
 simp_all[wpOpsS,go_sem,recoverD,Tryz.ntmps76,bodyPostS,results,Tryz.results76]
theorem vz(A:Option Addr)(c m:Nat)(ts:List Tab)(LA:Option Addr)(lc n:Nat)(l:List Chg)(w:World)(ht:aJ w w.heap.size A ts)(hm:ts.length=m)(hs:aI ts)(hok:aV ts)(hcg:dZ w w.heap.size A c ts o)(hl:dh w w.heap.size LA l)(hn:l.length=n)(hn6:n≤1024)(hrow:∀x∈l,x.row.length≤1000000){r:Bool}(hr:pb (kC ts l)=r):
 Calls Tryz.prog 32 #[.agg #[.slice A m c,.slice o.vA 0 o.vc,.slice o.iA o.idx.length o.ic,.slice o.sA o.skt.length o.sc,.slice o.cA o.cch.length o.cc,.slice o.rA o.rel.length o.rc,.slice o.tA o.str.length o.tc,.slice o.bA o.bak.length o.bc],.slice LA n lc] w fun e w'=>e=.returned (.bool r)∧Below w.heap.size w w':=by
 subst hm hn hr
 have h8:=hok.len
 have HT:=qh ht
 have HS:=qh hs
 have HOK:=qh hok
 have HCG:=qh hcg
 have HL:=qh hl
 have jy:=qh hrow
 have E9:decide (1024<l.length)=false:=by simp;omega
 have Lh:decide ((1024:Int)<(l.length:Int))=false:=by simp;omega
 clear ht hs hok hcg hl hrow
 go_enter_defers Tryz.func32,Tryz.ntmps32
 go_upto_region 2 with (fail)
 refine ai (P:=fun u=>Code.wp _ _ _ _ u) (R:=fun u=>Blk u w.heap.size 39 #[.slice A ts.length c,.slice o.vA 0 o.vc,.slice o.iA o.idx.length o.ic,.slice o.sA o.skt.length o.sc,.slice o.cA o.cch.length o.cc,.slice o.rA o.rel.length o.rc,.slice o.tA o.str.length o.tc,.slice o.bA o.bak.length o.bc]∧Below w.heap.size w u) ⟨?_,?_⟩ ?_
 ·exact Blk.new _ _ _
 ·exact ak
 rintro W ⟨hC,hbW⟩
 have hzC:=hC.lt
 have HC:=qh hC
 obtain⟨p0,p1,p2,p3,p4,p5,p6,p7⟩:=Cat.aZ hC
 clear hC
 go_upto_region 5 with (first
  | (go_at_call 48;(with_reducible refine(HCG.out.prog _ hbW).mono ?_);rintro e w1 ⟨rfl,hb1⟩;have hz1:=hb1.size;have hx1:Below w.heap.size w w1:=ae hbW hb1 hbW.size;clear p0 p1 p2 p3 p4 p5 p6 p7;obtain⟨p0,p1,p2,p3,p4,p5,p6,p7⟩:=Cat.aZ (HC.out.below hb1 hzC))
  | (go_at_call 63;(with_reducible refine(gB A c ts.length ts _ (HT.out.next hx1) rfl HS.out HOK.out).mono ?_);rintro e w2 ⟨⟨p,mb,fb,rfl,hS2⟩,hb2⟩;have hz2:=hb2.size;have hx2:Below w.heap.size w w2:=ae hx1 hb2 hx1.size;have HS2:=qh hS2;clear hS2 p0 p1 p2 p3 p4 p5 p6 p7))
 clear E9 Lh
 have hpl:=HS2.out.sch.blk.lt
 have hml:=HS2.out.sch.nums.lt
 have hfl:=HS2.out.blk.lt
 have hzw:w.heap.size≤w1.heap.size:=by have:=hx1.size;omega
 go_wp2_with fail
 go_loopw [20] (fun vi wr =>∃(i:Nat) (F:List Fx),i≤l.length∧vi=.int .i64 i∧gP wr w1.heap.size p mb fb A c ts o F∧Below w.heap.size w wr∧w2.heap.size≤wr.heap.size∧(∀j (h:j<l.length),j<i→mZ ts l j h)) (fun vi _=>l.length-(intOf vi).toNat)
 case atStart=>exact⟨0,_,Nat.zero_le _,rfl,HS2.out,hx2,Nat.le_refl _,fun j _ h=>by omega⟩
 case round =>
  obtain⟨i,F,hi,rfl,hSF,hbr,hzr,hpre⟩:=hrel
  have HSF:=qh hSF
  have jY:=qh hpre
  have hwz:=hbr.size
  clear hSF hpre
  by_cases hlt:i<l.length
  ·obtain⟨b5,o5,rfl,hb5,hc5⟩:=(HL.out.1.below hbr).get hlt
   obtain⟨⟨q0,q1,q2,q3⟩,q4,⟨q5,q6,q7⟩,q8,q9,q10,q11⟩:=Chg.dE hc5
   have hR:=HL.out.2 l[i] (lgm hlt)
   have hrl:=jy.out l[i] (lgm hlt)
   have hno:¬ mZ ts l i hlt→¬ kC ts l:=fun h k=>h (k.at_ i hlt)
   have hun:mZ ts l i hlt→bq ts l[i]=0∧(∀h0:0<i,l[i-1].seq<l[i].seq∧l[i-1].day≤l[i].day):=fun h=>⟨h.form,h.asc⟩
   have hmk:bq ts l[i]=0→(∀h0:0<i,l[i-1].seq<l[i].seq∧l[i-1].day≤l[i].day)→mZ ts l i hlt:=fun h k=>⟨h,k⟩
   obtain⟨⟨kd,sq,dy,tb,A0,cp,row,key,cl,vl⟩,hx⟩:∃x,l[i]=x:=⟨_,rfl⟩
   rw[hx]at q0 q1 q2 q3 q4 q5 q6 q7 q8 q9 q10 q11 hR hrl hun hmk
   simp only at q0 q1 q2 q3 q4 q5 q6 q7 q8 q9 q10 q11 hR hrl hun hmk
   obtain⟨z,hz⟩:∃z,bq ts ⟨kd,sq,dy,tb,A0,cp,row,key,cl,vl⟩=z:=⟨_,rfl⟩
   have HZ:=qh hz
   have HR:=qh hR
   have wz:=qh hno
   have HUN:=qh hun
   have HMK:=qh hmk
   clear hc5 hR hx hz hno hun hmk
   go_upto_region 8 with (fail)
   refine ai (P:=fun u=>Code.wp _ _ _ _ u) (R:=fun u=>Blk u wr.heap.size 64 (Chg.cells ⟨kd,sq,dy,tb,A0,cp,row,key,cl,vl⟩).toArray∧Below wr.heap.size wr u) ⟨?_,?_⟩ ?_
   ·exact Blk.new' spA
   ·exact ak
   clear q0 q1 q2 q3 q4 q5 q6 q7 q8 q9 q10 q11
   rintro Y ⟨hX,hbY⟩
   have hzX:=hX.lt
   have hzY:=hbY.size
   have HX:=qh hX
   have fJ:Below w.heap.size w Y:=ae hbr hbY hwz
   have HSY:=qh (HSF.out.next hbY)
   have U6:w.heap.size≤fb:=by have:=HS2.out.lf;omega
   have HFM:Hid (∀x:mY Y w1.heap.size p mb fb A c ts o,Calls Tryz.prog 64 #[.pointer (some ⟨p,0,none⟩),.agg #[.int .i64 kd,.int .i64 sq,.int .i64 dy,.int .i64 tb,.slice A0 row.length cp,.int .i64 key.kind,.int .i64 key.num,.string key.text,.int .i64 cl,.int .i64 vl.kind,.int .i64 vl.num,.string vl.text]] x.u fun e w''=>e=.returned (.int .i64 z) ∧ ∃y:mY Y w1.heap.size p mb fb A c ts o,w''=y.u):=qh fun x=>N8 kd sq dy tb A0 cp row key cl vl w x ⟨F,HSY.out⟩ fJ U6 HT.out HS.out HOK.out HCG.out omA HR.out hrl HZ.out
   obtain⟨⟨q0,q1,q2,q3⟩,q4,⟨q5,q6,q7⟩,q8,q9,q10,q11⟩:=Chg.dW hX
   simp only at q0 q1 q2 q3 q4 q5 q6 q7 q8 q9 q10 q11
   have hk0:=OL (w:=Y) (B:=w1.heap.size) (p:=p) (mb:=mb) (fb:=fb) (A:=A) (c:=c) (ts:=ts) (o:=o) wr.heap.size hzX omA
   clear hX
   by_cases hz0:z=0
   rotate_left
   ·have hz0':(z != 0)=true:=by simpa using hz0
    have HNO:Hid (¬ kC ts l):=qh (wz.out fun h=>by
     have h1:=(HUN.out h).1
     rw[HZ.out]at h1
     exact hz0 h1)
    clear hz0
    refine jN (B:=w1.heap.size) (p:=p) (mb:=mb) (fb:=fb) (A:=A) (c:=c) (ts:=ts) (o:=o) krA krA ?_;(repeat(go_big_quiet_step ((go_at_call 64;with_reducible exact HFM.out _))));refine wpQuiet_nil ?_;rintro wq ⟨x,rfl⟩
    (
    have hxb:Below w.heap.size w x.u:=Below.grown fJ x.g fJ.size inB
    clear hk0
    clear q0 q1 q2 q3 q4 q5 q6 q7 q8 q9 q10 q11
    go_wp2_with fail
    refine leaves_cons (f:= 76) (args:= #[]) spA fj ?_
    refine(iQ _).mono ?_
    rintro e u' w'' ⟨rfl,rfl,rfl⟩
    refine⟨_,results_tmp rfl _ _ _,?_⟩
    exact⟨ay (aM HNO.out).symm,hxb⟩)
   subst hz0
   by_cases h0:0<i
   ·have hkz:decide ((0:Int)<(i:Int))=true:=by simp;omega
    have j5:decide (0<i)=true:=by simpa using h0
    have oC:i-1<l.length:=by omega
    have lu:decide (i-1<l.length)=true:=by simpa using oC
    have hwrap:IntKind.i64.wrap ((i:Int)-1)=((i-1:Nat):Int):=by rw[show (i:Int)-1=((i-1:Nat):Int) by omega];exact IntWalk.i64_in _ omA
    obtain⟨b3,o3,he3,hb3,hc3⟩:=(HL.out.1.below fJ).get oC
    injection he3 with he3
    injection he3 with he4 he5
    subst he4 he5
    obtain⟨⟨f0,f1,f2,f3⟩,f4,⟨f5,f6,f7⟩,f8,f9,f10,f11⟩:=Chg.dE hc3
    obtain⟨⟨pk,ps,pd,pt,PA,pp,qp,uA,pc,pv⟩,hpx⟩:∃x,l[i-1]=x:=⟨_,rfl⟩
    rw[hpx]at f0 f1 f2 f3 f4 f5 f6 f7 f8 f9 f10 f11
    simp only at f0 f1 f2 f3 f4 f5 f6 f7 f8 f9 f10 f11
    obtain⟨fo,hfo⟩:∃fo,(decide (ps<sq)&&decide (pd≤dy))=fo:=⟨_,rfl⟩
    have HFO:=qh hfo
    have HPS:Hid (l[i-1].seq=ps∧l[i-1].day=pd):=qh (by rw[hpx];exact⟨rfl,rfl⟩)
    have HFL:Hid (∀x:mY Y w1.heap.size p mb fb A c ts o,Calls Tryz.prog 74 #[.agg #[.int .i64 pk,.int .i64 ps,.int .i64 pd,.int .i64 pt,.slice PA qp.length pp,.int .i64 uA.kind,.int .i64 uA.num,.string uA.text,.int .i64 pc,.int .i64 pv.kind,.int .i64 pv.num,.string pv.text],.agg #[.int .i64 kd,.int .i64 sq,.int .i64 dy,.int .i64 tb,.slice A0 row.length cp,.int .i64 key.kind,.int .i64 key.num,.string key.text,.int .i64 cl,.int .i64 vl.kind,.int .i64 vl.num,.string vl.text]] x.u fun e w''=>e=.returned (.bool fo) ∧ ∃y:mY Y w1.heap.size p mb fb A c ts o,w''=y.u):=qh fun x=>Fq ⟨pk,ps,pd,pt,PA,pp,qp,uA,pc,pv⟩ ⟨kd,sq,dy,tb,A0,cp,row,key,cl,vl⟩ x hfo
    have hk1:=OL (w:=Y) (B:=w1.heap.size) (p:=p) (mb:=mb) (fb:=fb) (A:=A) (c:=c) (ts:=ts) (o:=o) b5 omA omA
    clear hc3 hpx hfo
    cases fo
    ·have HNO:Hid (¬ kC ts l):=qh (wz.out fun h=>by
      have h2:=(HUN.out h).2 h0
      rw[HPS.out.1,HPS.out.2]at h2
      have h3:=HFO.out
      rw[decide_eq_true h2.1,decide_eq_true h2.2]at h3
      cases h3)
     clear h0
     refine jN (B:=w1.heap.size) (p:=p) (mb:=mb) (fb:=fb) (A:=A) (c:=c) (ts:=ts) (o:=o) krA krA ?_;(repeat(go_big_quiet_step ((first|(go_at_call 64;with_reducible exact HFM.out _)|(go_at_call 74;with_reducible exact HFL.out _)))));refine wpQuiet_nil ?_;rintro wq ⟨x,rfl⟩
     clear f0 f1 f2 f3 f4 f5 f6 f7 f8 f9 f10 f11 hk1 hkz j5 lu hwrap
     (
     have hxb:Below w.heap.size w x.u:=Below.grown fJ x.g fJ.size inB
     clear hk0
     clear q0 q1 q2 q3 q4 q5 q6 q7 q8 q9 q10 q11
     go_wp2_with fail
     refine leaves_cons (f:= 76) (args:= #[]) spA fj ?_
     refine(iQ _).mono ?_
     rintro e u' w'' ⟨rfl,rfl,rfl⟩
     refine⟨_,results_tmp rfl _ _ _,?_⟩
     exact⟨ay (aM HNO.out).symm,hxb⟩)
    ·have iV:Hid (mZ ts l i hlt):=qh (HMK.out HZ.out fun h0=>by
      have h3:=HFO.out
      simp only[Bool.and_eq_true,decide_eq_true_eq]at h3
      rw[HPS.out.1,HPS.out.2]
      exact h3)
     clear h0
     refine jN (B:=w1.heap.size) (p:=p) (mb:=mb) (fb:=fb) (A:=A) (c:=c) (ts:=ts) (o:=o) krA krA ?_;(repeat(go_big_quiet_step ((first|(go_at_call 64;with_reducible exact HFM.out _)|(go_at_call 74;with_reducible exact HFL.out _)))));refine wpQuiet_nil ?_;rintro wq ⟨x,rfl⟩
     clear f0 f1 f2 f3 f4 f5 f6 f7 f8 f9 f10 f11 hk1 hkz j5 lu hwrap
     (
     have hxb:Below w.heap.size w x.u:=Below.grown fJ x.g fJ.size inB
     have hxz:=x.g.size
     obtain⟨F5,hS5⟩:=x.s ⟨F,HSY.out⟩
     have HS5:=qh hS5
     clear hk0 hS5
     clear q0 q1 q2 q3 q4 q5 q6 q7 q8 q9 q10 q11
     go_wp2_with fail
     go_roundw
     case rel=>exact⟨i+1,F5,by omega,by go_num,HS5.out,hxb,by omega,fun j h hj=>by
      rcases Nat.lt_or_ge j i with h1|h1
      ·exact jY.out j h h1
      ·obtain rfl:j=i:=by omega
       exact iV.out⟩
     case measure=>exact meA)
   ·have hkz:decide ((0:Int)<(i:Int))=false:=by simp;omega
    have j5:decide (0<i)=false:=by simpa using h0
    have iV:Hid (mZ ts l i hlt):=qh (HMK.out HZ.out fun h=>absurd h h0)
    clear h0
    refine jN (B:=w1.heap.size) (p:=p) (mb:=mb) (fb:=fb) (A:=A) (c:=c) (ts:=ts) (o:=o) krA krA ?_;(repeat(go_big_quiet_step ((go_at_call 64;with_reducible exact HFM.out _))));refine wpQuiet_nil ?_;rintro wq ⟨x,rfl⟩
    clear hkz j5
    (
    have hxb:Below w.heap.size w x.u:=Below.grown fJ x.g fJ.size inB
    have hxz:=x.g.size
    obtain⟨F5,hS5⟩:=x.s ⟨F,HSY.out⟩
    have HS5:=qh hS5
    clear hk0 hS5
    clear q0 q1 q2 q3 q4 q5 q6 q7 q8 q9 q10 q11
    go_wp2_with fail
    go_roundw
    case rel=>exact⟨i+1,F5,by omega,by go_num,HS5.out,hxb,by omega,fun j h hj=>by
     rcases Nat.lt_or_ge j i with h1|h1
     ·exact jY.out j h h1
     ·obtain rfl:j=i:=by omega
      exact iV.out⟩
    case measure=>exact meA)
  ·have hlt':decide (i<l.length)=false:=by simpa using hlt
   have hie:i=l.length:=by omega
   have iV:Hid (kC ts l):=qh ⟨HOK.out,by omega,fun j h=>jY.out j h omA⟩
   clear hie
   go_wp2_with fail
   refine leaves_cons (f:= 76) (args:= #[]) spA fj ?_
   refine(iQ _).mono ?_
   rintro e u' w'' ⟨rfl,rfl,rfl⟩
   refine⟨_,results_tmp rfl _ _ _,?_⟩
   exact⟨ay (aU iV.out).symm,hbr⟩
open Go.RowKit Go
theorem Am(A:Option Addr)(c m:Nat)(oo:Oth)(LA:Option Addr)(lc n:Nat)(w:World)(hx:rP w w.heap.size A c m oo):
 Calls Tryz.prog 31 #[.agg #[.slice A m c,.slice oo.vA 0 oo.vc,.slice oo.iA oo.idx.length oo.ic,.slice oo.sA oo.skt.length oo.sc,.slice oo.cA oo.cch.length oo.cc,.slice oo.rA oo.rel.length oo.rc,.slice oo.tA oo.str.length oo.tc,.slice oo.bA oo.bak.length oo.bc],.slice LA n lc] w fun e w'=>e=.returned (.tuple #[.int .i64 0,.int .i64 1])∧Below w.heap.size w w':=by
 have HX:=qh hx
 clear hx
 go_enter_defers Tryz.func31,Tryz.ntmps31
 go_wp2_with (go_at_call 48;(with_reducible refine(HX.out.prog _ ak).mono ?_);rintro e w1 ⟨rfl,hb1⟩;have hx1:Below w.heap.size w w1:=ae ak hb1 leA)
 refine leaves_cons (f:= 73) (args:= #[]) spA fj ?_
 refine(fM _).mono ?_
 rintro e u' w'' ⟨rfl,rfl,rfl⟩
 refine⟨_,results_tmp2 rfl _ _ _,?_⟩
 exact⟨rfl,hx1⟩
theorem wY(A:Option Addr)(c m:Nat)(oo:Oth)(LA:Option Addr)(lc n:Nat)(w:World)(hx:rP w w.heap.size A c m oo):
 Calls Tryz.prog 77 #[.agg #[.slice A m c,.slice oo.vA 0 oo.vc,.slice oo.iA oo.idx.length oo.ic,.slice oo.sA oo.skt.length oo.sc,.slice oo.cA oo.cch.length oo.cc,.slice oo.rA oo.rel.length oo.rc,.slice oo.tA oo.str.length oo.tc,.slice oo.bA oo.bak.length oo.bc],.slice LA n lc] w fun e w'=>e=.returned (.tuple #[.int .i64 0,.int .i64 1])∧Below w.heap.size w w':=by
 have HX:=qh hx
 clear hx
 go_enter Tryz.func77,Tryz.ntmps77
 go_wp2_with (go_at_call 37;(with_reducible refine(HX.out.ref _ ak).mono ?_);rintro e w1 ⟨rfl,hb1⟩;have hx1:Below w.heap.size w w1:=ae ak hb1 leA)
 go_ret2
 exact⟨rfl,hx1⟩
theorem Ak{n:Nat}(hn6:n≤1024)(A:Option Addr)(c m:Nat)(oo:Oth)(LA:Option Addr)(lc:Nat)(w:World)(hx:rP w w.heap.size A c m oo):
 Calls Tryz.prog 32 #[.agg #[.slice A m c,.slice oo.vA 0 oo.vc,.slice oo.iA oo.idx.length oo.ic,.slice oo.sA oo.skt.length oo.sc,.slice oo.cA oo.cch.length oo.cc,.slice oo.rA oo.rel.length oo.rc,.slice oo.tA oo.str.length oo.tc,.slice oo.bA oo.bak.length oo.bc],.slice LA n lc] w fun e w'=>e=.returned (.bool false)∧Below w.heap.size w w':=by
 have HX:=qh hx
 clear hx
 have E9:decide (1024<n)=false:=by simp;omega
 have Lh:decide ((1024:Int)<(n:Int))=false:=by simp;omega
 go_enter_defers Tryz.func32,Tryz.ntmps32
 go_wp2_with (go_at_call 48;(with_reducible refine(HX.out.prog _ ak).mono ?_);rintro e w1 ⟨rfl,hb1⟩;have hx1:Below w.heap.size w w1:=ae ak hb1 leA)
 refine leaves_cons (f:= 76) (args:= #[]) spA fj ?_;refine(iQ _).mono ?_;rintro e u' w'' ⟨rfl,rfl,rfl⟩;refine⟨_,results_tmp rfl _ _ _,?_⟩
 exact⟨rfl,hx1⟩
theorem wW{n:Nat}(hn6:n≤1024)(A:Option Addr)(c m:Nat)(oo:Oth)(LA:Option Addr)(lc:Nat)(w:World)(hx:rP w w.heap.size A c m oo):
 Calls Tryz.prog 39 #[.agg #[.slice A m c,.slice oo.vA 0 oo.vc,.slice oo.iA oo.idx.length oo.ic,.slice oo.sA oo.skt.length oo.sc,.slice oo.cA oo.cch.length oo.cc,.slice oo.rA oo.rel.length oo.rc,.slice oo.tA oo.str.length oo.tc,.slice oo.bA oo.bak.length oo.bc],.slice LA n lc] w fun e w'=>e=.returned (.bool false)∧Below w.heap.size w w':=by
 have HX:=qh hx
 clear hx
 have E9:decide (1024<n)=false:=by simp;omega
 have Lh:decide ((1024:Int)<(n:Int))=false:=by simp;omega
 go_enter Tryz.func39,Tryz.ntmps39
 go_wp2_with (go_at_call 37;(with_reducible refine(HX.out.ref _ ak).mono ?_);rintro e w1 ⟨rfl,hb1⟩;have hx1:Below w.heap.size w w1:=ae ak hb1 leA)
 go_ret
 exact⟨rfl,hx1⟩
theorem Il(A:Option Addr)(c m:Nat)(ts:List Tab)(oo:Oth)(LA:Option Addr)(lc n:Nat)(l:List Chg)(w:World)(ht:aJ w w.heap.size A ts)(hm:ts.length=m)(hs:aI ts)(ho:bL w w.heap.size oo)(hso:dN oo)(h16:gV oo)(hl:dh w w.heap.size LA l)(hn:l.length=n)(hn6:n≤1024)(hrow:∀x∈l,x.row.length≤1000000):
 ∃ra rb,(∀u,Below w.heap.size w u→Calls Tryz.prog 31 #[.agg #[.slice A m c,.slice oo.vA 0 oo.vc,.slice oo.iA oo.idx.length oo.ic,.slice oo.sA oo.skt.length oo.sc,.slice oo.cA oo.cch.length oo.cc,.slice oo.rA oo.rel.length oo.rc,.slice oo.tA oo.str.length oo.tc,.slice oo.bA oo.bak.length oo.bc],.slice LA n lc] u fun e u'=>e=.returned (.tuple #[.int .i64 ra,.int .i64 rb])∧Below u.heap.size u u') ∧
  (∀u,Below w.heap.size w u→Calls Tryz.prog 77 #[.agg #[.slice A m c,.slice oo.vA 0 oo.vc,.slice oo.iA oo.idx.length oo.ic,.slice oo.sA oo.skt.length oo.sc,.slice oo.cA oo.cch.length oo.cc,.slice oo.rA oo.rel.length oo.rc,.slice oo.tA oo.str.length oo.tc,.slice oo.bA oo.bak.length oo.bc],.slice LA n lc] u fun e u'=>e=.returned (.tuple #[.int .i64 ra,.int .i64 rb])∧Below u.heap.size u u'):=by
 subst hm
 by_cases hok:dD ts oo
 ·have hcg:=dZ.of (c:=c) ht hs ho hso h16 hok
  obtain⟨k,z,h⟩:=NG hok.1 l
  exact⟨(xZ l k z).1,(xZ l k z).2,fun u hu=>vB (o:=oo) A c ts.length ts LA lc n l u (ht.next hu) rfl hs hok.1 (hcg.next hu) (hl.next hu) hn hn6 hrow k z h.le h.pok h.good h.bad (CZ h),fun u hu=>yY (o:=oo) A c ts.length ts LA lc n l u (ht.next hu) rfl hs hok.1 (hcg.next hu) (hl.next hu) hn hn6 hrow k z h (CZ h)⟩
 ·have hx:=rP.of (c:=c) ht hs ho hso h16 hok
  exact⟨0,1,fun u hu=>Am A c ts.length oo LA lc n u (hx.next hu),fun u hu=>wY A c ts.length oo LA lc n u (hx.next hu)⟩
theorem Ko(A:Option Addr)(c m:Nat)(ts:List Tab)(oo:Oth)(LA:Option Addr)(lc n:Nat)(l:List Chg)(w:World)(ht:aJ w w.heap.size A ts)(hm:ts.length=m)(hs:aI ts)(ho:bL w w.heap.size oo)(hso:dN oo)(h16:gV oo)(hl:dh w w.heap.size LA l)(hn:l.length=n)(hn6:n≤1024)(hrow:∀x∈l,x.row.length≤1000000):
 ∃r,(∀u,Below w.heap.size w u→Calls Tryz.prog 32 #[.agg #[.slice A m c,.slice oo.vA 0 oo.vc,.slice oo.iA oo.idx.length oo.ic,.slice oo.sA oo.skt.length oo.sc,.slice oo.cA oo.cch.length oo.cc,.slice oo.rA oo.rel.length oo.rc,.slice oo.tA oo.str.length oo.tc,.slice oo.bA oo.bak.length oo.bc],.slice LA n lc] u fun e u'=>e=.returned (.bool r)∧Below u.heap.size u u') ∧
  (∀u,Below w.heap.size w u→Calls Tryz.prog 39 #[.agg #[.slice A m c,.slice oo.vA 0 oo.vc,.slice oo.iA oo.idx.length oo.ic,.slice oo.sA oo.skt.length oo.sc,.slice oo.cA oo.cch.length oo.cc,.slice oo.rA oo.rel.length oo.rc,.slice oo.tA oo.str.length oo.tc,.slice oo.bA oo.bak.length oo.bc],.slice LA n lc] u fun e u'=>e=.returned (.bool r)∧Below u.heap.size u u'):=by
 subst hm
 by_cases hok:dD ts oo
 ·have hcg:=dZ.of (c:=c) ht hs ho hso h16 hok
  exact⟨pb (kC ts l),fun u hu=>vz (o:=oo) A c ts.length ts LA lc n l u (ht.next hu) rfl hs hok.1 (hcg.next hu) (hl.next hu) hn hn6 hrow rfl,fun u hu=>yX (o:=oo) A c ts.length ts LA lc n l u (ht.next hu) rfl hs hok.1 (hcg.next hu) (hl.next hu) hn omA hrow rfl⟩
 ·have hx:=rP.of (c:=c) ht hs ho hso h16 hok
  exact⟨false,fun u hu=>Ak hn6 A c ts.length oo LA lc u (hx.next hu),fun u hu=>wW hn6 A c ts.length oo LA lc u (hx.next hu)⟩
theorem nY(A:Option Addr)(c m:Nat)(ts:List Tab)(oo:Oth)(LA:Option Addr)(lc n:Nat)(l:List Chg)(w:World)(ht:aJ w w.heap.size A ts)(hm:ts.length=m)(hs:aI ts)(ho:bL w w.heap.size oo)(hso:dN oo)(h16:gV oo)(hl:dh w w.heap.size LA l)(hn:l.length=n)(hn6:n≤1024)(hrow:∀x∈l,x.row.length≤1000000):
 Calls Tryz.prog 33 #[.agg #[.slice A m c,.slice oo.vA 0 oo.vc,.slice oo.iA oo.idx.length oo.ic,.slice oo.sA oo.skt.length oo.sc,.slice oo.cA oo.cch.length oo.cc,.slice oo.rA oo.rel.length oo.rc,.slice oo.tA oo.str.length oo.tc,.slice oo.bA oo.bak.length oo.bc],.slice LA n lc] w fun e w'=>e=.returned (.bool true)∧Below w.heap.size w w':=by
 subst hm
 obtain⟨ra,rb,h1,h2⟩:=Il A c ts.length ts oo LA lc n l w ht rfl hs ho hso h16 hl hn hn6 hrow
 obtain⟨r,h3,h4⟩:=Ko A c ts.length ts oo LA lc n l w ht rfl hs ho hso h16 hl hn hn6 hrow
 have H1:=qh h1
 have H2:=qh h2
 have H3:=qh h3
 have H4:=qh h4
 have hra:(ra==ra)=true:=by simp
 have hrb:(rb==rb)=true:=by simp
 have hrr:(r==r)=true:=by simp
 clear ht hs ho hso h16 hl hn hn6 hrow h1 h2 h3 h4
 go_enter Tryz.func33,Tryz.ntmps33
 go_upto_region 1 with (fail)
 refine ai (P:=fun u=>Code.wp _ _ _ _ u) (R:=fun u=>Blk u w.heap.size 39 #[.slice A ts.length c,.slice oo.vA 0 oo.vc,.slice oo.iA oo.idx.length oo.ic,.slice oo.sA oo.skt.length oo.sc,.slice oo.cA oo.cch.length oo.cc,.slice oo.rA oo.rel.length oo.rc,.slice oo.tA oo.str.length oo.tc,.slice oo.bA oo.bak.length oo.bc]∧Below w.heap.size w u) ⟨?_,?_⟩ ?_
 ·exact Blk.new _ _ _
 ·exact ak
 rintro W ⟨hB,hbW⟩
 have hzW:=hB.lt
 have HB:=qh hB
 obtain⟨p0,p1,p2,p3,p4,p5,p6,p7⟩:=Cat.aZ hB
 clear hB
 go_upto_region 3 with (first
  | (go_at_call 31;(with_reducible refine(H1.out _ hbW).mono ?_);rintro e w1 ⟨rfl,hb1⟩;have hz1:=hb1.size;have hx1:Below w.heap.size w w1:=ae hbW hb1 hbW.size;clear p0 p1 p2 p3 p4 p5 p6 p7;obtain⟨p0,p1,p2,p3,p4,p5,p6,p7⟩:=Cat.aZ (HB.out.below hb1 hzW))
  | (go_at_call 77;(with_reducible refine(H2.out _ hx1).mono ?_);rintro e w2 ⟨rfl,hb2⟩;have hz2:=hb2.size;have hx2:Below w.heap.size w w2:=ae hx1 hb2 hx1.size;clear p0 p1 p2 p3 p4 p5 p6 p7;have HC2:=qh (HB.out.below (ae hb1 hb2 hz1) hzW)))
 have hdr:Below w2.heap.size w2 w2.drew:=brf.drew
 have hxd:Below w.heap.size w w2.drew:=ae hx2 hdr hx2.size
 have HC3:=qh (HC2.out.below hdr HC2.out.lt)
 refine wp_region_held_drew (S:=fun u=>u.cell? ⟨w.heap.size,0,none⟩=some (.slice A ts.length c)∧u.cell? ⟨w.heap.size,1,none⟩=some (.slice oo.vA 0 oo.vc)∧u.cell? ⟨w.heap.size,2,none⟩=some (.slice oo.iA oo.idx.length oo.ic)∧u.cell? ⟨w.heap.size,3,none⟩=some (.slice oo.sA oo.skt.length oo.sc)∧u.cell? ⟨w.heap.size,4,none⟩=some (.slice oo.cA oo.cch.length oo.cc)∧u.cell? ⟨w.heap.size,5,none⟩=some (.slice oo.rA oo.rel.length oo.rc)∧u.cell? ⟨w.heap.size,6,none⟩=some (.slice oo.tA oo.str.length oo.tc)∧u.cell? ⟨w.heap.size,7,none⟩=some (.slice oo.bA oo.bak.length oo.bc)) krA (Cat.aZ HC2.out) (fun hHeld =>?_)
 refine tkH 0 hHeld ?_
 refine tkH 1 hHeld ?_
 refine tkH 2 hHeld ?_
 refine tkH 3 hHeld ?_
 refine tkH 4 hHeld ?_
 refine tkH 5 hHeld ?_
 refine tkH 6 hHeld ?_
 refine tkH 7 hHeld ?_
 refine tkH 8 hHeld ?_
 refine tkH 9 hHeld ?_
 refine tkH 10 hHeld ?_
 refine tkH 12 hHeld ?_
 refine tkH 13 hHeld ?_
 refine wpAnyH_ready (rs:= [11]) krA spA ?_
 refine AllReadyH.cons rfl (fun K hK =>?_) AllReadyH.nil
 go_simp
 (go_at_call 32;(with_reducible refine(H3.out _ hxd).mono ?_))
 rintro e w3 ⟨rfl,hb3⟩
 have hz3:=hb3.size
 have hx3:=ae hxd hb3 hxd.size
 have HC4:=qh (HC3.out.below hb3 HC3.out.lt)
 go_wp2_with fail
 refine hK.out _ _ (Cat.aZ HC4.out) (fun hHeld =>?_)
 clear hK K
 (try simp only[Act.put,gP6])
 refine wpAnyH_ready (rs:= [14]) krA spA ?_
 refine AllReadyH.cons rfl (fun K hK =>?_) AllReadyH.nil
 go_simp
 (go_at_call 39;(with_reducible refine(H4.out _ hx3).mono ?_))
 rintro e w4 ⟨rfl,hb4⟩
 have hx4:=ae hx3 hb4 hx3.size
 have HC5:=qh (HC4.out.below hb4 HC4.out.lt)
 go_wp2_with fail
 refine hK.out _ _ (Cat.aZ HC5.out) (fun hHeld =>?_)
 clear hK K
 (try simp only[Act.put,gP6])
 refine tkH 15 hHeld ?_
 refine tkH 16 hHeld ?_
 refine tkH 17 hHeld ?_
 refine wpAnyH_done krA ?_ _
 clear hHeld HC5
 go_wp2_with fail
 go_ret
 exact⟨rfl,hx4⟩
end Go.Proofs.YtebippoohpnjkaaGreat
