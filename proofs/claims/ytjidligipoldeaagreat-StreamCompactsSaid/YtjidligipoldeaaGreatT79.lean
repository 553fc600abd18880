/-
  Contracts and plain laws of this seat, part 79.
-/
import Derived.Test.YtjidligipoldeaaGreatT78
set_option linter.unusedVariables false
set_option linter.unusedSimpArgs false
set_option maxRecDepth 100000
set_option maxHeartbeats 16000000
namespace Go.Proofs.YtjidligipoldeaaGreat
open Go.RowKit Go Go.Shelf
theorem qp{rt:List RTab}{pl:List (List aG)}(h:rt.map aD=pl){k:Nat}{R:List aG}(hk:pl[k]?=some R)(hl:k<rt.length):rt[k].recs.map aA=R:=by
 subst h
 rw[List.getElem?_map,List.getElem?_eq_getElem hl]at hk
 exact Option.some.inj hk
theorem tV{w:World}{B g o:Nat}{A:Option Addr}{l:List Rcd}(h:bU w B A l)(hA:∀a,A=some a→g<a.block)(hr:∀x∈l,(∀a,x.A=some a→g<a.block) ∧ ∀a,x.SA=some a→g<a.block)(u:Value):bU (w.setCell ⟨g,o,none⟩ u) B A l:=
 ⟨h.1.far (fun a ha=>by have:=hA a ha;show a.block≠g;omega) u,fun x hx=>⟨(h.2 x hx).1.far (fun a ha=>by have:=(hr x hx).1 a ha;show a.block≠g;omega) u,(h.2 x hx).2.far (fun a ha=>by have:=(hr x hx).2 a ha;show a.block≠g;omega) u⟩⟩
theorem tC{d:Nat}{v:Value}(hd:d≠6)(t:Array Value):results Tryz.f12 (t.setIfInBounds d v)=results Tryz.f12 t:=by
 simp[results,Tryz.results12,Array.getElem?_setIfInBounds_ne hd]
theorem rV(A:Option Addr)(c m:Nat)(ts:List Tab)(k:Nat)(lo nx:Int)(EA:Option Addr)(ec en:Nat)(es:List Ent)(w:World)(ht:aF w w.heap.size A ts)(hm:ts.length=m)(hs:aM ts)(hE:di w w.heap.size EA es)(hen:es.length=en)(hlo:dF ts k lo nx (es.map Ent.p))(h8:∀x∈es,x.chg.row.length≤8):
 Calls Tryz.prog 12 #[.agg #[.slice A m c,.slice none 0 0,.slice none 0 0,.slice none 0 0,.slice none 0 0,.slice none 0 0,.slice none 0 0,.slice none 0 0],.int .i64 k,.agg #[.int .i64 lo,.int .i64 nx,.slice EA en ec]] w fun e w'=>(∃RA rc recs,e=.returned (.slice RA recs.length rc)∧bU w' w'.heap.size RA recs∧recs.map aA=dL [] ((es.map Ent.p).map Prod.snd))∧Below w.heap.size w w':=by
 subst hm hen
 have hk:=hlo.lt
 have h5:=hlo.len'
 have h1:=hlo.cat.len
 have HT:=qh ht
 have HS:=qh hs
 have HE:=qh hE
 have HLO:=qh hlo
 have H8:=qh h8
 clear ht hs hE hlo h8
 go_enter_defers Tryz.func12,Tryz.ntmps12
 go_upto_region 2 with (fail)
 refine ah (P:=fun u=>Code.wp _ _ _ _ u) (R:=fun u=>Blk u w.heap.size 33 #[.slice A ts.length c,.slice none 0 0,.slice none 0 0,.slice none 0 0,.slice none 0 0,.slice none 0 0,.slice none 0 0,.slice none 0 0]∧Blk u (w.heap.size+1) 39 #[.int .i64 lo,.int .i64 nx,.slice EA es.length ec]∧Blk u (w.heap.size+2) 46 #[.slice none 0 0]∧Below w.heap.size w u) ⟨?_,?_,?_,?_⟩ ?_
 ·exact((Blk.new _ _ _).alloc _).alloc _
 ·exact(Blk.new' spA).alloc _
 ·exact Blk.new' spA
 ·exact ai
 rintro W ⟨hC,hL,hO,hbW⟩
 have HC:=qh hC
 have HL:=qh hL
 have HO:=qh hO
 have hcl:=hC.lt
 have hll:=hL.lt
 have hol:=hO.lt
 obtain⟨p0,p1,p2,p3,p4,p5,p6,p7⟩:=Cat.blk hC
 have l0:=hL.cell 0
 have l1:=hL.cell 1
 have l2:=hL.cell 2
 simp only[gE3]at l0 l1 l2
 clear hC hL hO
 go_upto_region 4 with (go_at_call 32;(with_reducible refine(uR A c ts.length ts k lo nx EA ec es.length es _ (HT.out.next hbW) rfl HS.out (HE.out.next hbW) rfl HLO.out H8.out).mono ?_);rintro e w1 ⟨rfl,hb1⟩)
 have hx1:Below w.heap.size w w1:=aa hbW hb1 hbW.size
 have HC1:=qh (HC.out.below hb1 hcl)
 have HL1:=qh (HL.out.below hb1 hll)
 have HO1:=qh (HO.out.below hb1 hol)
 clear p0 p1 p2 p3 p4 p5 p6 p7 l0 l1 l2
 obtain⟨p0,p1,p2,p3,p4,p5,p6,p7⟩:=Cat.blk HC1.out
 have l2:=HL1.out.cell 2
 simp only[gE3]at l2
 have hz1:=hb1.size
 have hbd:Below w.heap.size w w1.drew:=hx1.trans ((brf.drew).mono hx1.size)
 refine wp_region_held_drew (S:=fun u=>(u.cell? ⟨w.heap.size,0,none⟩=some (.slice A ts.length c)∧u.cell? ⟨w.heap.size,1,none⟩=some (.slice none 0 0)∧u.cell? ⟨w.heap.size,2,none⟩=some (.slice none 0 0)∧u.cell? ⟨w.heap.size,3,none⟩=some (.slice none 0 0)∧u.cell? ⟨w.heap.size,4,none⟩=some (.slice none 0 0)∧u.cell? ⟨w.heap.size,5,none⟩=some (.slice none 0 0)∧u.cell? ⟨w.heap.size,6,none⟩=some (.slice none 0 0)∧u.cell? ⟨w.heap.size,7,none⟩=some (.slice none 0 0))∧u.cell? ⟨w.heap.size+1,2,none⟩=some (.slice EA es.length ec)) krA ⟨⟨p0,p1,p2,p3,p4,p5,p6,p7⟩,l2⟩ (fun hHeld =>?_)
 refine tkH 0 hHeld ?_ (hQ:=by exact fun c a w h=>fJ (d:= 13) (tC (by decide)) c a w h)
 refine tkH 1 hHeld ?_ (hQ:=by exact fun c a w h=>fJ (d:= 14) (tC (by decide)) c a w h)
 refine tkH 2 hHeld ?_ (hQ:=by exact fun c a w h=>fJ (d:= 15) (tC (by decide)) c a w h)
 refine tkH 5 hHeld ?_ (hQ:=by exact fun c a w h=>fJ (d:= 18) (tC (by decide)) c a w h)
 refine wpAnyH_ready (rs:= [3]) krA spA ?_
 refine AllReadyH.cons rfl (fun K hK =>?_) AllReadyH.nil
 go_simp
 (go_at_call 34;(with_reducible refine(jW EA ec es _ (HE.out.next hbd) omA H8.out).mono ?_);rintro e w2 ⟨⟨LA,lc,l,rfl,hlm,hlo2⟩,hb2⟩)
 have hx2:Below w.heap.size w w2:=aa hbd hb2 hbd.size
 have mP:=qh hlo2
 have HLM:=qh hlm
 have jZ:Below w1.heap.size w1 w2:=brf.drew.trans hb2
 have HC2:=qh (HC1.out.below jZ HC1.out.lt)
 have HL2:=qh (HL1.out.below jZ HL1.out.lt)
 have HO2:=qh (HO1.out.below jZ HO1.out.lt)
 clear hlm hlo2 p0 p1 p2 p3 p4 p5 p6 p7 l2
 go_wp2_with fail
 refine hK.out _ _ ⟨Cat.blk HC2.out,HL2.out.cell 2⟩ (fun hHeld =>?_)
 clear hK K
 (try simp only[Act.put,gP6])
 have UB:l.length=es.length:=by
  have h:=congrArg List.length HLM.out
  simpa using h
 have PO:=qh UB
 clear UB
 refine wpAnyH_ready (rs:= [4]) krA spA ?_
 refine AllReadyH.cons rfl (fun K hK =>?_) AllReadyH.nil
 go_simp
 (go_at_call 33;(with_reducible refine(lS A c ts.length ts LA lc l.length l _ (HT.out.next hx2) rfl HS.out HLO.out.cat mP.out.read rfl (by have:=PO.out;omega) (fun x hx=>Nat.le_trans (mP.out.len x hx) omA)).mono ?_);rintro e w3 ⟨⟨q,rt,rfl,hrl,hrt,hru,hpu⟩,hb3⟩)
 have hx3:Below w.heap.size w w3:=aa hx2 hb3 hx2.size
 have HC3:=qh (HC2.out.below hb3 HC2.out.lt)
 have HL3:=qh (HL2.out.below hb3 HL2.out.lt)
 have HO3:=qh (HO2.out.below hb3 HO2.out.lt)
 have hkr:k<rt.length:=by omega
 have jr:=qh (qp hpu (HLO.out.recs (by rw[HLM.out,List.map_map,List.map_map];rfl)) hkr)
 obtain⟨b5,o5,e5,hb5,hc5⟩:=hrt.1.get hkr
 injection e5 with e5
 injection e5 with e6 e7
 subst e6 e7
 have t0:=hc5 0 _ rfl
 have hr3:=hrt.2 rt[k] (lgm hkr)
 have hup:=hru.2 rt[k] (lgm hkr)
 obtain⟨⟨TA,tc,recs⟩,hy⟩:∃x:RTab,rt[k]=x:=⟨_,rfl⟩
 rw[hy]at t0 hr3 jr hup
 simp only[Nat.mul_one,Nat.add_zero,Nat.zero_add]at t0 hr3 jr
 have HR3:=qh hr3
 have HUP:=qh hup
 have hz2:w.heap.size+2<w2.heap.size:=by have:=jZ.size;omega
 have k0:=HO3.out.cell 0
 have k0f:=HO3.out.frozen 0
 have k0l:=HO3.out.lt
 simp only[gE3]at k0
 have hki:decide (k<ts.length)=true:=by simpa using hk
 have Rv:decide ((k:Int)<(ts.length:Int))=true:=by simp;omega
 clear hc5 hy hrt hru hpu hr3 hrl hkr hup
 go_wp2_with fail
 refine hK.out _ _ ⟨Cat.blk HC3.out,HL3.out.cell 2⟩ (fun hHeld =>?_)
 clear hK K
 (try simp only[Act.put,gP6])
 refine wpAnyH_ready (rs:= [6]) krA spA ?_
 refine AllReadyH.cons rfl (fun K hK =>?_) AllReadyH.nil
 go_simp
 refine hK.out _ _ ⟨Cat.blk HC3.out,HL3.out.cell 2⟩ (fun hHeld =>?_)
 clear hK K
 (try simp only[Act.put,gP6])
 refine wpAnyH_ready (rs:= [7]) krA spA ?_
 refine AllReadyH.cons rfl (fun K hK =>?_) AllReadyH.nil
 go_simp
 refine hK.out _ _ ⟨Cat.blk HC3.out,HL3.out.cell 2⟩ (fun hHeld =>?_)
 clear hK K
 (try simp only[Act.put,gP6])
 refine wpAnyH_ready (rs:= [8]) krA spA ?_
 refine AllReadyH.cons rfl (fun K hK =>?_) AllReadyH.nil
 go_simp
 refine hK.out _ _ ⟨Cat.blk (HC3.out.far (p:=⟨w.heap.size+2,0,none⟩) spA _),(HL3.out.far (p:=⟨w.heap.size+2,0,none⟩) spA _).cell 2⟩ (fun hHeld =>?_)
 clear hK K
 (try simp only[Act.put,gP6])
 refine wpAnyH_done krA ?_ _
 clear hHeld
 go_wp2_with fail
 have hc:(w3.setCell ⟨w.heap.size+2,0,none⟩ (.slice TA recs.length tc)).cell? ⟨w.heap.size+2,0,none⟩=some (.slice TA recs.length tc):=World.cell?_setCell_same' _ _ _ (by rw[k0];rfl)
 refine leaves_cons (f:= 39) (args:= #[.pointer (some ⟨w.heap.size+2,0,none⟩)]) spA (by simp[go_sem]) ?_
 refine(yu _ _).mono ?_
 rintro e u' w'' ⟨rfl,rfl,rfl⟩
 refine⟨.slice TA recs.length tc,by simp[results,Tryz.results12,go_sem,hc],⟨TA,tc,recs,rfl,?_,jr.out⟩,hx3.setCell (by show w.heap.size≤w.heap.size+2;omega) _⟩
 have hsz:(w3.setCell ⟨w.heap.size+2,0,none⟩ (.slice TA recs.length tc)).heap.size=w3.heap.size:=by simp
 exact(tV HR3.out (fun a ha=>Nat.lt_of_lt_of_le hz2 (HUP.out.1 a ha)) (fun x hx=>⟨fun a ha=>Nat.lt_of_lt_of_le hz2 ((HUP.out.2 x hx).1 a ha),fun a ha=>Nat.lt_of_lt_of_le hz2 ((HUP.out.2 x hx).2 a ha)⟩) _).mono (Nat.le_of_eq hsz.symm)
end Go.Proofs.YtjidligipoldeaaGreat
