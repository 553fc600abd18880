/-
  Contracts and plain laws of this seat, part 27.
-/
import Derived.Test.YtebippoohpnjkaaGreatN26
set_option linter.unusedVariables false
set_option linter.unusedSimpArgs false
set_option maxRecDepth 100000
set_option maxHeartbeats 16000000
namespace Go.Proofs.YtebippoohpnjkaaGreat
open Go.RowKit Go
def fK:Col:=⟨⟨#[105,100]⟩,1,⟨#[112,101,114,115,111,110]⟩,⟨#[]⟩,none,0,[],0,0⟩
def fC(b:Nat):Col:=⟨⟨#[118]⟩,2,⟨#[]⟩,⟨#[]⟩,some ⟨b,0,none⟩,1,[0],0,20⟩
def lG(b q:Nat):Tab:=⟨⟨#[102]⟩,some ⟨q,0,none⟩,2,[fK,fC b],0,30⟩
theorem K9(ts:List Tab)(b q:Nat):bU ts [fK,fC b] 0 30 0 0 fK=0:=by
 have h1:cE1 fK=false:=by decide +kernel
 have h2:cE2 [fK,fC b] 0 fK=false:=aP (fun⟨k,h,hk,_⟩=>by omega)
 have hr:(!fK.refs.toList.isEmpty)=false:=by decide +kernel
 have h3:∀tg,cE3 fK tg=false:=fun tg=>by rw[cE3,hr];rfl
 have h4:∀tg,cE4 ts fK tg=false:=fun tg=>by rw[cE4,hr,Bool.and_false,Bool.false_and,Bool.or_false];rfl
 have h5:cE5 [fK,fC b] fK=false:=by
  have:pb (dV [fK,fC b] fK.own)=true:=aW (fun i h=>by simp[fK]at h)
  rw[cE5,hr,this]
  simp[fK,fC,aG]
 have h6:cE6 0 30 0 fK=false:=by rfl
 have h7:∀tg,cE7 ts 0 fK tg=false:=fun tg=>by rw[cE7,hr];rfl
 unfold bU
 simp only[h1,h2,h3,h4,h5,h6,h7]
 rfl
theorem K8(ts:List Tab)(b q:Nat):bU ts [fK,fC b] 0 30 0 1 (fC b)=0:=by
 have h1:cE1 (fC b)=false:=by
  have e1:dn (fC b).name=true:=by show dn ⟨#[118]⟩=true;decide +kernel
  have e2:(!(fC b).ns.toList.isEmpty)=false:=by show (!(⟨#[]⟩:ByteArray).toList.isEmpty)=false;decide +kernel
  rw[cE1,e1,e2]
  rfl
 have h2:cE2 [fK,fC b] 1 (fC b)=false:=aP (fun⟨k,h,hk,he⟩=>by
  obtain rfl:k=0:=by omega
  have he:(⟨#[105,100]⟩:ByteArray)=⟨#[118]⟩:=he
  exact absurd he (by decide +kernel))
 have hr:(!(fC b).refs.toList.isEmpty)=false:=by show (!(⟨#[]⟩:ByteArray).toList.isEmpty)=false;decide +kernel
 have hn:(!(fC b).ns.toList.isEmpty)=false:=hr
 have h3:∀tg,cE3 (fC b) tg=false:=fun tg=>by rw[cE3,hr];rfl
 have h4:∀tg,cE4 ts (fC b) tg=false:=fun tg=>by rw[cE4,hr,Bool.and_false,Bool.false_and,Bool.or_false];rfl
 have h5:cE5 [fK,fC b] (fC b)=false:=by
  have:pb (dV [fK,fC b] (fC b).own)=true:=aW (fun i h=>by
   have h':i<1:=h
   obtain rfl:i=0:=by omega
   refine⟨show (0:Int)≤0 by omega,show (0:Int).toNat<2 by decide,fun h0=>absurd h0 omA,?_⟩
   rintro⟨e,_⟩
   have e:(⟨#[112,101,114,115,111,110]⟩:ByteArray)=⟨#[]⟩:=e
   exact absurd e (by decide +kernel))
  rw[cE5,hr,this]
  simp[fK,fC,aG]
 have h6:cE6 0 30 1 (fC b)=false:=by rfl
 have h7:∀tg,cE7 ts 1 (fC b) tg=false:=fun tg=>by rw[cE7,hr];rfl
 unfold bU
 simp only[h1,h2,h3,h4,h5,h6,h7]
 rfl
theorem qO(b q:Nat):aY [lG b q]:=by
 refine⟨by simp,fun i h =>?_⟩
 have h':i<1:=by simpa using h
 obtain rfl:i=0:=by omega
 refine⟨?_,fun k hk=>by omega,?_⟩
 ·show dn ⟨#[102]⟩=true
  decide +kernel
 ·show gm [lG b q] 0 (lG b q)=0
  have hs:eD (lG b q)=true:=rfl
  rw[gm,if_pos hs]
  refine fP fun i hi =>?_
  have hi':i<2:=hi
  rcases(show i=0∨i=1 by omega) with rfl|rfl
  ·exact K9 _ b q
  ·exact K8 _ b q
theorem nO(b q:Nat):aL [lG b q]:=by
 refine⟨by simp,fun t ht =>?_⟩
 rw[List.mem_singleton.1 ht]
 refine⟨show 1≤1000000 by omega,show 2≤1000000 by omega,Nat.le_refl 2,fun x hx =>?_⟩
 have hx:x=fK∨x=fC b:=by simpa[lG]using hx
 rcases hx with rfl|rfl
 ·exact⟨show 2≤1000000 by omega,show 6≤1000000 by omega,show 0≤1000000 by omega,show 0≤1000000 by omega⟩
 ·exact⟨show 1≤1000000 by omega,show 0≤1000000 by omega,show 0≤1000000 by omega,show 1≤1000000 by omega⟩
theorem iF(w:World):Calls Tryz.prog 53 #[] w fun e w' =>
 (∃A b q,e=.returned (.agg #[.slice A 1 1,.slice none 0 0,.slice none 0 0,.slice none 0 0,.slice none 0 0,.slice none 0 0,.slice none 0 0,.slice none 0 0])∧aM w' w'.heap.size A [lG b q])∧Below w.heap.size w w':=by
 go_enter Tryz.func53,Tryz.ntmps53
 go_wp2_with fail
 refine au (P:=fun u=>bodyPost _ _ _ _ _ u) (R:=fun u=>Blk u w.heap.size 39 #[.slice (some ⟨w.heap.size+1+1+1,0,none⟩) 1 1,.slice none 0 0,.slice none 0 0,.slice none 0 0,.slice none 0 0,.slice none 0 0,.slice none 0 0,.slice none 0 0]∧Blk u (w.heap.size+1) 3 ([(0:Int)].flatMap intCells).toArray∧Blk u (w.heap.size+1+1) 79 ([fK,fC (w.heap.size+1)].flatMap Col.cells).toArray∧Blk u (w.heap.size+1+1+1) 77 ([lG (w.heap.size+1) (w.heap.size+1+1)].flatMap Tab.cells).toArray∧Below w.heap.size w u) ⟨?_,?_,?_,?_,?_⟩ ?_
 ·exact(((Blk.new _ _ _).alloc _).alloc _).alloc _
 ·exact(((Blk.new' spA).eq rfl).alloc _).alloc _
 ·exact((Blk.new' spA).eq rfl).alloc _
 ·exact(Blk.new' spA).eq rfl
 ·exact av
 rintro W ⟨hR,hI,hC,hT,hbW⟩
 obtain⟨p0,p1,p2,p3,p4,p5,p6,p7⟩:=Cat.blk hR
 refine bodyPost_ret (v:= .agg #[.slice (some ⟨w.heap.size+1+1+1,0,none⟩) 1 1,.slice none 0 0,.slice none 0 0,.slice none 0 0,.slice none 0 0,.slice none 0 0,.slice none 0 0,.slice none 0 0]) (by simp[results,Tryz.results53,go_sem,p0,p1,p2,p3,p4,p5,p6,p7]) rfl ⟨⟨_,w.heap.size+1,w.heap.size+1+1,rfl,?_,?_⟩,hbW⟩
 ·exact Blk.all fw hT hT.lt
 ·intro t ht
  rw[List.mem_singleton.1 ht]
  refine⟨Blk.all dF hC hC.lt,fun x hx =>?_⟩
  have hx:x=fK∨x=fC (w.heap.size+1):=by simpa[lG]using hx
  rcases hx with rfl|rfl
  ·exact ah.nil
  ·exact Blk.all bn hI hI.lt
open Go.RowKit Go
def Qi(RA SA:Option Addr):Rcd:=⟨RA,2,[⟨1,1,⟨#[]⟩⟩,⟨0,0,⟨#[]⟩⟩],SA,2,[2,7],3⟩
def rtF(TA RA SA:Option Addr):List RTab:= [⟨TA,1,[Qi RA SA]⟩]
def oF:aF:=⟨0,1,7,2,32,none,0,[],false,true⟩
theorem AR(b q:Nat)(TA RA SA:Option Addr):bX [lG b q] (rtF TA RA SA):=by
 refine⟨qO b q,rfl,fun i h h' =>?_⟩
 have h1:i<1:=h
 obtain rfl:i=0:=by omega
 refine⟨show 1≤64 by omega,fun k hk =>?_⟩
 have h2:k<1:=hk
 obtain rfl:k=0:=by omega
 refine⟨⟨rfl,rfl,rfl,fun i hi =>?_,fun _=>show (1:Int)≠0 by decide⟩,fun h0=>by omega,fun j hj=>by omega⟩
 have h3:i<2:=hi
 rcases(show i=0∨i=1 by omega) with rfl|rfl
 ·exact⟨fun _=>show ek ⟨1,1,⟨#[]⟩⟩=true by decide +kernel,fun _ _=>rfl,fun _=>rfl,fun _ _=>show (2:Int)≤2 by decide⟩
 ·exact⟨fun _=>show ek ⟨0,0,⟨#[]⟩⟩=true by decide +kernel,fun _ _=>rfl,fun _=>rfl,fun _ _=>show (2:Int)≤7 by decide⟩
theorem tu(TA RA SA:Option Addr):dQ (rtF TA RA SA):=by
 refine⟨show 1≤1000000 by omega,fun t ht =>?_,fun t ht r hr =>?_,fun t ht r hr =>?_⟩
 all_goals
  rw[List.mem_singleton.1 ht]at *
 ·exact show 1≤1000000 by omega
 ·rw[List.mem_singleton.1 hr];exact show 2≤1000000 by omega
 ·rw[List.mem_singleton.1 hr];exact show 2≤1000000 by omega
theorem Pk(b q:Nat)(TA RA SA:Option Addr):iH [lG b q] (rtF TA RA SA) [] 32=[]:=by
 unfold iH
 rw[aW (AR b q TA RA SA),if_pos rfl]
 rfl
theorem Pj(b q:Nat)(TA RA SA:Option Addr):iH [lG b q] (rtF TA RA SA) [] 33=[⟨0,2⟩]:=by
 unfold iH
 rw[aW (AR b q TA RA SA),if_pos rfl]
 rfl
theorem Ph(b q:Nat)(TA RA SA:Option Addr):iH [lG b q] (rtF TA RA SA) [oF] 51=[]:=by
 unfold iH
 rw[aW (AR b q TA RA SA),if_pos rfl]
 rfl
theorem Pg(b q:Nat)(TA RA SA:Option Addr):iH [lG b q] (rtF TA RA SA) [oF] 52=[⟨0,2⟩]:=by
 unfold iH
 rw[aW (AR b q TA RA SA),if_pos rfl]
 rfl
theorem Mk(b q:Nat):dS (endE [lG b q] oF) 51=true:=by rfl
theorem Mj(b q:Nat):dS (endE [lG b q] oF) 52=false:=by rfl
theorem Ga(A:Option Addr)(b q:Nat)(day:Int)(w:World)(ht:aM w w.heap.size A [lG b q]){r:Bool}(hr:dS (endE [lG b q] oF) day=r):
 Calls Tryz.prog 17 #[.agg #[.slice A 1 1,.slice none 0 0,.slice none 0 0,.slice none 0 0,.slice none 0 0,.slice none 0 0,.slice none 0 0,.slice none 0 0],.agg #[.int .i64 0,.int .i64 1,.int .i64 7,.int .i64 2,.int .i64 32,.slice none 0 0,.bool false,.bool true],.int .i64 day] w fun e w'=>e=.returned (.bool r)∧Below w.heap.size w w':=
 JB A 1 1 [lG b q] oF day w ht rfl (nO b q) (qO b q) hr
theorem Dy(w:World):Calls Tryz.prog 19 #[] w fun e w'=>e=.returned (.bool true)∧Below w.heap.size w w':=by
 go_enter Tryz.func19,Tryz.ntmps19
 go_upto_region 5 with (go_at_call 52;(refine(Ml 1 _ omA).mono ?_);rintro e w1 ⟨rfl,hb1⟩)
 have hwz:w.heap.size≤w1.heap.size:=hb1.1.size
 refine au (P:=fun u=>Code.wp _ _ _ _ u) (R:=fun u=>Blk u (w1.heap.size+1) 62 ([(⟨1,1,⟨#[]⟩⟩:Val),⟨0,0,⟨#[]⟩⟩].flatMap Val.cells).toArray∧Blk u (w1.heap.size+1+1) 3 ([(2:Int),7].flatMap intCells).toArray∧Blk u (w1.heap.size+1+1+1) 126 ([Qi (some ⟨w1.heap.size+1,0,none⟩) (some ⟨w1.heap.size+1+1,0,none⟩)].flatMap Rcd.cells).toArray∧Blk u (w1.heap.size+1+1+1+1) 127 ((rtF (some ⟨w1.heap.size+1+1+1,0,none⟩) (some ⟨w1.heap.size+1,0,none⟩) (some ⟨w1.heap.size+1+1,0,none⟩)).flatMap RTab.cells).toArray∧Blk u (w1.heap.size+1+1+1+1+1) 27 oF.cells.toArray∧Blk u (w1.heap.size+1+1+1+1+1+1) 27 ([oF].flatMap aF.cells).toArray∧Below w.heap.size w u) ⟨?_,?_,?_,?_,?_,?_,?_⟩ ?_
 ·exact((((((Blk.new' spA).eq rfl).alloc _).alloc _).alloc _).alloc _).alloc _
 ·exact(((((Blk.new' spA).eq rfl).alloc _).alloc _).alloc _).alloc _
 ·exact((((Blk.new' spA).eq rfl).alloc _).alloc _).alloc _
 ·exact(((Blk.new' spA).eq rfl).alloc _).alloc _
 ·exact((Blk.new' spA).eq rfl).alloc _
 ·exact(Blk.new' spA).eq rfl
 ·have h1:Below w.heap.size w w1:=hb1.1
  exact av
 generalize w1.heap.size=z at *
 rintro W ⟨hV,hI,hR,hT,hO,hL,hbW⟩
 have wK:=hO.lt
 have HOB:=qh hO
 have hrt:aQ W W.heap.size (some ⟨z+1+1+1+1,0,none⟩) (rtF (some ⟨z+1+1+1,0,none⟩) (some ⟨z+1,0,none⟩) (some ⟨z+1+1,0,none⟩)):=by
  refine⟨Blk.all bQ hT hT.lt,fun t ht =>?_⟩
  rw[List.mem_singleton.1 ht]
  refine⟨Blk.all bB hR hR.lt,fun r hr =>?_⟩
  rw[List.mem_singleton.1 hr]
  exact⟨Blk.all dE hV hV.lt,Blk.all bn hI hI.lt⟩
 have HRT:=qh hrt
 have HLT:Hid (ah W W.heap.size aF.cells 8 (some ⟨z+1+1+1+1+1+1,0,none⟩) [oF]):=qh (Blk.all aX hL hL.lt)
 have hob:=aF.blk hO
 have hy0:Below W.heap.size W W.drew:=brf.drew
 clear hV hI hR hT hO hL hrt
 refine wp_region_held_drew (S:=fun u=>u.cell? ⟨z+1+1+1+1+1,0,none⟩=some (.int .i64 0)∧u.cell? ⟨z+1+1+1+1+1,1,none⟩=some (.int .i64 1)∧u.cell? ⟨z+1+1+1+1+1,2,none⟩=some (.int .i64 7)∧u.cell? ⟨z+1+1+1+1+1,3,none⟩=some (.int .i64 2)∧u.cell? ⟨z+1+1+1+1+1,4,none⟩=some (.int .i64 32)∧u.cell? ⟨z+1+1+1+1+1,5,none⟩=some (.slice none 0 0)∧u.cell? ⟨z+1+1+1+1+1,6,none⟩=some (.bool false)∧u.cell? ⟨z+1+1+1+1+1,7,none⟩=some (.bool true)) krA hob (fun hHeld =>?_)
 refine tkH 1 hHeld ?_
 refine wpAnyH_ready (rs:= [0]) krA spA ?_
 refine AllReadyH.cons rfl (fun K hK =>?_) AllReadyH.nil
 go_simp
 (go_at_call 53;(with_reducible refine(iF _).mono ?_))
 rintro e w1 ⟨⟨A1,fb1,fq1,rfl,ht1⟩,hb1⟩
 have hy1:Below W.heap.size W w1:=ae hy0 hb1 hy0.size
 have HT1:=qh ht1
 clear ht1 hb1
 go_wp2_with fail
 refine hK.out _ _ (aF.blk (HOB.out.below hy1 wK)) (fun hHeld =>?_)
 clear hK K
 (try simp only[Act.put,gP6])
 refine wpAnyH_ready (rs:= [2]) krA spA ?_
 refine AllReadyH.cons rfl (fun K hK =>?_) AllReadyH.nil
 go_simp
 (go_at_call 17;(with_reducible refine(Ga A1 fb1 fq1 51 _ HT1.out (Mk _ _)).mono ?_))
 rintro e w2 ⟨rfl,hb2⟩
 have hy2:Below W.heap.size W w2:=ae hy1 hb2 hy1.size
 clear hb2
 go_wp2_with fail
 refine hK.out _ _ (aF.blk (HOB.out.below hy2 wK)) (fun hHeld =>?_)
 clear hK K
 (try simp only[Act.put,gP6])
 refine tkH 3 hHeld ?_
 refine tkH 5 hHeld ?_
 refine wpAnyH_ready (rs:= [4]) krA spA ?_
 refine AllReadyH.cons rfl (fun K hK =>?_) AllReadyH.nil
 go_simp
 (go_at_call 53;(with_reducible refine(iF _).mono ?_))
 rintro e w3 ⟨⟨A3,fb3,fq3,rfl,ht3⟩,hb3⟩
 have hy3:Below W.heap.size W w3:=ae hy2 hb3 hy2.size
 have HT3:=qh ht3
 clear ht3 hb3
 go_wp2_with fail
 refine hK.out _ _ (aF.blk (HOB.out.below hy3 wK)) (fun hHeld =>?_)
 clear hK K
 (try simp only[Act.put,gP6])
 refine wpAnyH_ready (rs:= [6]) krA spA ?_
 refine AllReadyH.cons rfl (fun K hK =>?_) AllReadyH.nil
 go_simp
 (go_at_call 17;(with_reducible refine(Ga A3 fb3 fq3 52 _ HT3.out (Mj _ _)).mono ?_))
 rintro e w4 ⟨rfl,hb4⟩
 have hy4:Below W.heap.size W w4:=ae hy3 hb4 hy3.size
 clear hb4
 go_wp2_with fail
 refine hK.out _ _ (aF.blk (HOB.out.below hy4 wK)) (fun hHeld =>?_)
 clear hK K
 (try simp only[Act.put,gP6])
 refine tkH 7 hHeld ?_
 refine tkH 8 hHeld ?_
 refine tkH 9 hHeld ?_
 refine tkH 11 hHeld ?_
 refine wpAnyH_ready (rs:= [10]) krA spA ?_
 refine AllReadyH.cons rfl (fun K hK =>?_) AllReadyH.nil
 go_simp
 (go_at_call 53;(with_reducible refine(iF _).mono ?_))
 rintro e w5 ⟨⟨A5,fb5,fq5,rfl,ht5⟩,hb5⟩
 have hy5:Below W.heap.size W w5:=ae hy4 hb5 hy4.size
 have HT5:=qh ht5
 clear ht5 hb5
 go_wp2_with fail
 refine hK.out _ _ (aF.blk (HOB.out.below hy5 wK)) (fun hHeld =>?_)
 clear hK K
 (try simp only[Act.put,gP6])
 refine wpAnyH_ready (rs:= [12]) krA spA ?_
 refine AllReadyH.cons rfl (fun K hK =>?_) AllReadyH.nil
 go_simp
 (go_at_call 54;(with_reducible refine(ko A5 1 1 [lG fb5 fq5] (some ⟨z+1+1+1+1,0,none⟩) 1 1 (rtF (some ⟨z+1+1+1,0,none⟩) (some ⟨z+1,0,none⟩) (some ⟨z+1+1,0,none⟩)) none 0 0 [] 32 _ HT5.out rfl (nO _ _) (qO _ _) (HRT.out.next hy5) rfl (tu _ _ _) ah.nil rfl (by decide) (by simp[oF])).mono ?_))
 rintro e w6 ⟨⟨EA6,ec6,l6,rfl,_,_,hp6,_⟩,hb6⟩
 have hy6:Below W.heap.size W w6:=ae hy5 hb6 hy5.size
 have hl6:=hp6.length_eq
 rw[Pk]at hl6
 simp only[List.length_nil,List.length_singleton]at hl6
 rw[hl6]
 clear hb6 hp6 hl6
 go_wp2_with fail
 refine hK.out _ _ (aF.blk (HOB.out.below hy6 wK)) (fun hHeld =>?_)
 clear hK K
 (try simp only[Act.put,gP6])
 refine tkH 13 hHeld ?_
 refine tkH 14 hHeld ?_
 refine tkH 15 hHeld ?_
 refine tkH 16 hHeld ?_
 refine tkH 18 hHeld ?_
 refine wpAnyH_ready (rs:= [17]) krA spA ?_
 refine AllReadyH.cons rfl (fun K hK =>?_) AllReadyH.nil
 go_simp
 (go_at_call 53;(with_reducible refine(iF _).mono ?_))
 rintro e w7 ⟨⟨A7,fb7,fq7,rfl,ht7⟩,hb7⟩
 have hy7:Below W.heap.size W w7:=ae hy6 hb7 hy6.size
 have HT7:=qh ht7
 clear ht7 hb7
 go_wp2_with fail
 refine hK.out _ _ (aF.blk (HOB.out.below hy7 wK)) (fun hHeld =>?_)
 clear hK K
 (try simp only[Act.put,gP6])
 refine wpAnyH_ready (rs:= [19]) krA spA ?_
 refine AllReadyH.cons rfl (fun K hK =>?_) AllReadyH.nil
 go_simp
 (go_at_call 54;(with_reducible refine(ko A7 1 1 [lG fb7 fq7] (some ⟨z+1+1+1+1,0,none⟩) 1 1 (rtF (some ⟨z+1+1+1,0,none⟩) (some ⟨z+1,0,none⟩) (some ⟨z+1+1,0,none⟩)) none 0 0 [] 33 _ HT7.out rfl (nO _ _) (qO _ _) (HRT.out.next hy7) rfl (tu _ _ _) ah.nil rfl (by decide) (by simp[oF])).mono ?_))
 rintro e w8 ⟨⟨EA8,ec8,l8,rfl,_,_,hp8,_⟩,hb8⟩
 have hy8:Below W.heap.size W w8:=ae hy7 hb8 hy7.size
 have hl8:=hp8.length_eq
 rw[Pj]at hl8
 simp only[List.length_nil,List.length_singleton]at hl8
 rw[hl8]
 clear hb8 hp8 hl8
 go_wp2_with fail
 refine hK.out _ _ (aF.blk (HOB.out.below hy8 wK)) (fun hHeld =>?_)
 clear hK K
 (try simp only[Act.put,gP6])
 refine tkH 20 hHeld ?_
 refine tkH 21 hHeld ?_
 refine tkH 22 hHeld ?_
 refine tkH 23 hHeld ?_
 refine tkH 25 hHeld ?_
 refine tkH 26 hHeld ?_
 refine wpAnyH_ready (rs:= [24]) krA spA ?_
 refine AllReadyH.cons rfl (fun K hK =>?_) AllReadyH.nil
 go_simp
 (go_at_call 53;(with_reducible refine(iF _).mono ?_))
 rintro e w9 ⟨⟨A9,fb9,fq9,rfl,ht9⟩,hb9⟩
 have hy9:Below W.heap.size W w9:=ae hy8 hb9 hy8.size
 have HT9:=qh ht9
 clear ht9 hb9
 go_wp2_with fail
 refine hK.out _ _ (aF.blk (HOB.out.below hy9 wK)) (fun hHeld =>?_)
 clear hK K
 (try simp only[Act.put,gP6])
 refine wpAnyH_ready (rs:= [27]) krA spA ?_
 refine AllReadyH.cons rfl (fun K hK =>?_) AllReadyH.nil
 go_simp
 (go_at_call 54;(with_reducible refine(ko A9 1 1 [lG fb9 fq9] (some ⟨z+1+1+1+1,0,none⟩) 1 1 (rtF (some ⟨z+1+1+1,0,none⟩) (some ⟨z+1,0,none⟩) (some ⟨z+1+1,0,none⟩)) (some ⟨z+1+1+1+1+1+1,0,none⟩) 1 1 [oF] 51 _ HT9.out rfl (nO _ _) (qO _ _) (HRT.out.next hy9) rfl (tu _ _ _) (HLT.out.next hy9) rfl (by decide) (by simp[oF])).mono ?_))
 rintro e w10 ⟨⟨Xu,Xn,l10,rfl,_,_,QZ,_⟩,wM⟩
 have Oc:Below W.heap.size W w10:=ae hy9 wM hy9.size
 have Mw:=QZ.length_eq
 rw[Ph]at Mw
 simp only[List.length_nil,List.length_singleton]at Mw
 rw[Mw]
 clear wM QZ Mw
 go_wp2_with fail
 refine hK.out _ _ (aF.blk (HOB.out.below Oc wK)) (fun hHeld =>?_)
 clear hK K
 (try simp only[Act.put,gP6])
 refine tkH 28 hHeld ?_
 refine tkH 29 hHeld ?_
 refine tkH 30 hHeld ?_
 refine tkH 31 hHeld ?_
 refine tkH 33 hHeld ?_
 refine tkH 34 hHeld ?_
 refine wpAnyH_ready (rs:= [32]) krA spA ?_
 refine AllReadyH.cons rfl (fun K hK =>?_) AllReadyH.nil
 go_simp
 (go_at_call 53;(with_reducible refine(iF _).mono ?_))
 rintro e w11 ⟨⟨A11,U2,UZ,rfl,QB⟩,uj⟩
 have Ke:Below W.heap.size W w11:=ae Oc uj Oc.size
 have U6:=qh QB
 clear QB uj
 go_wp2_with fail
 refine hK.out _ _ (aF.blk (HOB.out.below Ke wK)) (fun hHeld =>?_)
 clear hK K
 (try simp only[Act.put,gP6])
 refine wpAnyH_ready (rs:= [35]) krA spA ?_
 refine AllReadyH.cons rfl (fun K hK =>?_) AllReadyH.nil
 go_simp
 (go_at_call 54;(with_reducible refine(ko A11 1 1 [lG U2 UZ] (some ⟨z+1+1+1+1,0,none⟩) 1 1 (rtF (some ⟨z+1+1+1,0,none⟩) (some ⟨z+1,0,none⟩) (some ⟨z+1+1,0,none⟩)) (some ⟨z+1+1+1+1+1+1,0,none⟩) 1 1 [oF] 52 _ U6.out rfl (nO _ _) (qO _ _) (HRT.out.next Ke) rfl (tu _ _ _) (HLT.out.next Ke) rfl (by decide) (by simp[oF])).mono ?_))
 rintro e w12 ⟨⟨Xt,Xm,l12,rfl,_,_,yg,_⟩,RH⟩
 have Qs:Below W.heap.size W w12:=ae Ke RH Ke.size
 have hl12:=yg.length_eq
 rw[Pg]at hl12
 simp only[List.length_nil,List.length_singleton]at hl12
 rw[hl12]
 clear RH yg hl12
 go_wp2_with fail
 refine hK.out _ _ (aF.blk (HOB.out.below Qs wK)) (fun hHeld =>?_)
 clear hK K
 (try simp only[Act.put,gP6])
 refine tkH 36 hHeld ?_
 refine tkH 37 hHeld ?_
 refine tkH 38 hHeld ?_
 refine tkH 39 hHeld ?_
 refine wpAnyH_done krA ?_ _
 go_wp2_with fail
 go_ret
 exact⟨rfl,ae hbW Qs hbW.size⟩
end Go.Proofs.YtebippoohpnjkaaGreat
