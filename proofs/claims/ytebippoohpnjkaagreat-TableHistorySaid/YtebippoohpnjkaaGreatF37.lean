/-
  Contracts and plain laws of this seat, part 37.
-/
import Derived.Test.YtebippoohpnjkaaGreatF36
set_option linter.unusedVariables false
set_option linter.unusedSimpArgs false
set_option maxRecDepth 100000
set_option maxHeartbeats 16000000
namespace Go.Proofs.YtebippoohpnjkaaGreat
open Go.RowKit Go
def ku:Col:=⟨⟨#[107]⟩,1,⟨#[]⟩,⟨#[]⟩,none,0,[],0,0⟩
def kr:Col:=⟨⟨#[118]⟩,2,⟨#[]⟩,⟨#[]⟩,none,0,[],0,0⟩
def dL(q:Nat):Tab:=⟨⟨#[116]⟩,some ⟨q,0,none⟩,2,[ku,kr],0,0⟩
theorem Gx(ts:List Tab){i:Nat}{x:Col}(hi:i=0∧x=ku∨i=1∧x=kr):df ts [ku,kr] 0 0 0 i x=0:=by
 have hr0:(!(⟨#[]⟩:ByteArray).toList.isEmpty)=false:=by decide +kernel
 have hr:(!x.refs.toList.isEmpty)=false:=by rcases hi with ⟨_,rfl⟩|⟨_,rfl⟩<;>exact hr0
 have hn:(!x.ns.toList.isEmpty)=false:=by rcases hi with ⟨_,rfl⟩|⟨_,rfl⟩<;>exact hr0
 have h1:cE1 x=false:=by
  have e1:dQ x.name=true:=by
   rcases hi with ⟨_,rfl⟩|⟨_,rfl⟩
   ·show dQ ⟨#[107]⟩=true;decide +kernel
   ·show dQ ⟨#[118]⟩=true;decide +kernel
  rw[cE1,e1,hn]
  rcases hi with ⟨_,rfl⟩|⟨_,rfl⟩<;>rfl
 have h2:cE2 [ku,kr] i x=false:=aM (fun⟨k,h,hk,he⟩=>by
  rcases hi with ⟨rfl,rfl⟩|⟨rfl,rfl⟩
  ·omega
  ·obtain rfl:k=0:=by omega
   have he:(⟨#[107]⟩:ByteArray)=⟨#[118]⟩:=he
   exact absurd he (by decide +kernel))
 have h3:∀tg,cE3 x tg=false:=fun tg=>by rw[cE3,hr];rfl
 have h4:∀tg,cE4 ts x tg=false:=fun tg=>by rw[cE4,hr,Bool.and_false,Bool.false_and,Bool.or_false];rcases hi with ⟨_,rfl⟩|⟨_,rfl⟩<;>rfl
 have h5:cE5 [ku,kr] x=false:=by
  have:pb (gm [ku,kr] x.own)=true:=aU (fun i h=>by rcases hi with ⟨_,rfl⟩|⟨_,rfl⟩<;>simp[ku,kr]at h)
  rw[cE5,hr,this]
  rcases hi with ⟨_,rfl⟩|⟨_,rfl⟩<;>simp[ku,kr,aD]
 have h6:cE6 0 0 i x=false:=by rcases hi with ⟨rfl,rfl⟩|⟨rfl,rfl⟩<;>rfl
 have h7:∀tg,cE7 ts 0 x tg=false:=fun tg=>by rw[cE7,hr];rcases hi with ⟨_,rfl⟩|⟨_,rfl⟩<;>rfl
 have h7':∀tg,cE7 ts i x tg=false:=fun tg=>by rw[cE7,hr];rcases hi with ⟨_,rfl⟩|⟨_,rfl⟩<;>rfl
 unfold df
 simp only[h1,h2,h3,h4,h5,h6,h7,h7']
 rfl
theorem wE(q:Nat):aV [dL q]:=by
 refine⟨by simp,fun i h =>?_⟩
 have h':i<1:=by simpa using h
 obtain rfl:i=0:=by omega
 refine⟨?_,fun k hk=>by omega,?_⟩
 ·show dQ ⟨#[116]⟩=true
  decide +kernel
 ·show il [dL q] 0 (dL q)=0
  have hs:gK (dL q)=true:=rfl
  rw[il,if_pos hs]
  refine gY fun i hi =>?_
  have hi':i<2:=hi
  rcases(show i=0∨i=1 by omega) with rfl|rfl
  ·exact Gx _ (.inl ⟨rfl,rfl⟩)
  ·exact Gx _ (.inr ⟨rfl,rfl⟩)
theorem Ae(q:Nat):aI [dL q]:=by
 refine⟨by simp,fun t ht =>?_⟩
 rw[List.mem_singleton.1 ht]
 refine⟨show 1≤1000000 by omega,show 2≤1000000 by omega,Nat.le_refl 2,fun x hx =>?_⟩
 have hx:x=ku∨x=kr:=by simpa[dL]using hx
 rcases hx with rfl|rfl
 ·exact⟨show 1≤1000000 by omega,show 0≤1000000 by omega,show 0≤1000000 by omega,show 0≤1000000 by omega⟩
 ·exact⟨show 1≤1000000 by omega,show 0≤1000000 by omega,show 0≤1000000 by omega,show 0≤1000000 by omega⟩
theorem vM(w:World):Calls Tryz.prog 67 #[] w fun e w' =>
 (∃A q,e=.returned (.agg #[.slice A 1 1,.slice none 0 0,.slice none 0 0,.slice none 0 0,.slice none 0 0,.slice none 0 0,.slice none 0 0,.slice none 0 0])∧aJ w' w'.heap.size A [dL q])∧Below w.heap.size w w':=by
 go_enter Tryz.func67,Tryz.ntmps67
 go_wp2_with fail
 refine ai (P:=fun u=>bodyPost _ _ _ _ _ u) (R:=fun u=>Blk u w.heap.size 39 #[.slice (some ⟨w.heap.size+1+1,0,none⟩) 1 1,.slice none 0 0,.slice none 0 0,.slice none 0 0,.slice none 0 0,.slice none 0 0,.slice none 0 0,.slice none 0 0]∧Blk u (w.heap.size+1) 79 ([ku,kr].flatMap Col.cells).toArray∧Blk u (w.heap.size+1+1) 77 ([dL (w.heap.size+1)].flatMap Tab.cells).toArray∧Below w.heap.size w u) ⟨?_,?_,?_,?_⟩ ?_
 ·exact((Blk.new _ _ _).alloc _).alloc _
 ·exact((Blk.new' spA).eq rfl).alloc _
 ·exact(Blk.new' spA).eq rfl
 ·exact ak
 rintro W ⟨hR,hC,hT,hbW⟩
 obtain⟨p0,p1,p2,p3,p4,p5,p6,p7⟩:=Cat.blk hR
 refine bodyPost_ret (v:= .agg #[.slice (some ⟨w.heap.size+1+1,0,none⟩) 1 1,.slice none 0 0,.slice none 0 0,.slice none 0 0,.slice none 0 0,.slice none 0 0,.slice none 0 0,.slice none 0 0]) (by simp[results,Tryz.results67,go_sem,p0,p1,p2,p3,p4,p5,p6,p7]) rfl ⟨⟨_,w.heap.size+1,rfl,?_,?_⟩,hbW⟩
 ·exact Blk.all gy hT hT.lt
 ·intro t ht
  rw[List.mem_singleton.1 ht]
  refine⟨Blk.all dS hC hC.lt,fun x hx =>?_⟩
  have hx:x=ku∨x=kr:=by simpa[dL]using hx
  rcases hx with rfl|rfl
  ·exact ah.nil
  ·exact ah.nil
open Go.RowKit Go
def qR:Val:=⟨1,1,⟨#[]⟩⟩
def vX:Val:=⟨2,0,⟨#[120]⟩⟩
def cA(A:Option Addr)(cp:Nat):Chg:=⟨1,5,0,0,A,cp,[qR,vX],fQ,0,fQ⟩
def cB:Chg:=⟨2,8,0,0,none,0,[],qR,1,fQ⟩
def cC:Chg:=⟨2,9,0,0,none,0,[],qR,0,qR⟩
def rA:bu:=([qR,vX],[5,5],0)
def rB:bu:=([qR,fQ],[5,8],0)
theorem Oz:bK qR=true:=by decide +kernel
theorem v_x:bK vX=true:=by decide +kernel
theorem Rf:bK fQ=true:=by decide +kernel
theorem Vr{k:Int}(hk:k≠0):pb (dz [ku,kr] k)=false:=aM (fun h=>by
 rcases h with h|⟨x,hx,h⟩
 ·exact hk h
 ·have hx:x=ku∨x=kr:=by simpa using hx
  rcases hx with rfl|rfl<;>cases h)
theorem O6(q:Nat)(A:Option Addr)(cp:Nat):bq [dL q] (cA A cp)=0:=by
 have h1:bC [dL q] (cA A cp)=false:=by
  have e:uo [qR,vX]=true:=by decide +kernel
  have e2:dP 2 (cA A cp)=false:=by
   unfold dP
   rw[show (cA A cp).row=[qR,vX] from rfl,e]
   show (((decide (fQ≠fQ)||(0:Int) != 0)||decide (fQ≠fQ))||(2:Int) != 2 || !true)=false
   decide +kernel
  have e3:bC [dL q] (cA A cp)=(eO 1 (cA A cp)||dP 2 (cA A cp)):=rfl
  rw[e3,e2]
  rfl
 have h2:((keyOf (cA A cp)).kind == 0)=false:=rfl
 have h3:pb (fZ (cz [dL q] (cA A cp).table) (cA A cp).row)=true:=aU (fun i h k=>by
  have h':i<2:=h
  rcases(show i=0∨i=1 by omega) with rfl|rfl<;>rfl)
 have h4:iT (cz [dL q] (cA A cp).table) (cA A cp)=false:=rfl
 unfold bq
 rw[h1,h2,h3,h4]
 rfl
theorem Tu(q:Nat):bq [dL q] cB=0:=by
 have h1:bC [dL q] cB=false:=by
  have e3:bC [dL q] cB=(eO 1 cB||dG 2 cB):=rfl
  have e2:dG 2 cB=false:=by decide +kernel
  rw[e3,e2]
  rfl
 have h2:((keyOf cB).kind == 0)=false:=rfl
 have h3:pb (fZ (cz [dL q] cB.table) cB.row)=true:=aU (fun i h k=>by cases h)
 have h4:iT (cz [dL q] cB.table) cB=false:=rfl
 have h5:pb (dz (cz [dL q] cB.table) cB.column)=false:=Vr (by decide)
 unfold bq
 rw[h1,h2,h3,h4,h5]
 rfl
theorem O5(q:Nat):bq [dL q] cC=11:=by
 have h1:bC [dL q] cC=false:=by
  have e3:bC [dL q] cC=(eO 1 cC||dG 2 cC):=rfl
  have e2:dG 2 cC=false:=by decide +kernel
  rw[e3,e2]
  rfl
 have h2:((keyOf cC).kind == 0)=false:=rfl
 have h3:pb (fZ (cz [dL q] cC.table) cC.row)=true:=aU (fun i h k=>by cases h)
 have h4:iT (cz [dL q] cC.table) cC=false:=rfl
 have h5:pb (dz (cz [dL q] cC.table) cC.column)=true:=aU (.inl rfl)
 unfold bq
 rw[h1,h2,h3,h4,h5]
 rfl
theorem OG(A:Option Addr)(cp:Nat):aP [[]] (cA A cp)=[[rA]]:=by
 have h:cK [] (cA A cp)=[rA]:=by
  rw[mP rfl (by have e:dM [] (keyOf (cA A cp))=-1:=(by unfold dM;split<;>rfl);rw[e];decide) (by decide)]
  rfl
 show [cK [] (cA A cp)]=[[rA]]
 rw[h]
theorem Rn:aP [[rA]] cB=[[rB]]:=by
 have h:cK [rA] cB=[rB]:=by
  rw[mO (j:= 0) rfl (by decide +kernel)]
  rfl
 show [cK [rA] cB]=[[rB]]
 rw[h]
theorem Cf(q:Nat)(A:Option Addr)(cp:Nat):aS [dL q] [cA A cp,cB]=[[rB]]:=by
 unfold aS
 simp only[List.foldl_cons,List.foldl_nil,List.length_singleton,List.replicate_one,O6,Tu,if_true,OG,Rn]
theorem M9(q:Nat)(A:Option Addr)(cp:Nat):aS [dL q] [cA A cp]=[[rA]]:=by
 unfold aS
 simp only[List.foldl_cons,List.foldl_nil,List.length_singleton,List.replicate_one,O6,if_true,OG]
theorem AB{q:Nat}{r:bu}(h:gG [ku,kr] r.1 r.2.1 r.2.2):POk [dL q] [[r]]:=by
 refine⟨rfl,fun i hi hi' =>?_⟩
 have h1:i<1:=hi
 obtain rfl:i=0:=by omega
 exact⟨by simp,fun x hx=>by rw[List.mem_singleton.1 hx];exact h,List.pairwise_singleton _ _,List.pairwise_singleton _ _⟩
theorem Rl:gG [ku,kr] rA.1 rA.2.1 rA.2.2:=by
 refine⟨rfl,rfl,rfl,fun i hi =>?_,fun _=>show (1:Int)≠0 by decide⟩
 have h3:i<2:=hi
 rcases(show i=0∨i=1 by omega) with rfl|rfl
 ·exact⟨fun _=>Oz,fun _ _=>rfl,fun _=>rfl,fun _ _=>show (5:Int)≤5 by decide⟩
 ·exact⟨fun _=>v_x,fun _ _=>rfl,fun _=>rfl,fun _ _=>show (5:Int)≤5 by decide⟩
theorem OE:gG [ku,kr] rB.1 rB.2.1 rB.2.2:=by
 refine⟨rfl,rfl,rfl,fun i hi =>?_,fun _=>show (1:Int)≠0 by decide⟩
 have h3:i<2:=hi
 rcases(show i=0∨i=1 by omega) with rfl|rfl
 ·exact⟨fun _=>Oz,fun _ _=>rfl,fun _=>rfl,fun _ _=>show (5:Int)≤5 by decide⟩
 ·exact⟨fun _=>Rf,fun _ _=>rfl,fun _=>rfl,fun _ _=>show (5:Int)≤8 by decide⟩
theorem Rm(q:Nat)(A:Option Addr)(cp:Nat):∀i,i≤2→POk [dL q] (aS [dL q] ([cA A cp,cB].take i)):=fun i hi=>by
 rcases(show i=0∨i=1∨i=2 by omega) with rfl|rfl|rfl
 ·exact POk.zero [dL q]
 ·show POk [dL q] (aS [dL q] [cA A cp])
  rw[M9]
  exact AB Rl
 ·show POk [dL q] (aS [dL q] [cA A cp,cB])
  rw[Cf]
  exact AB OE
theorem yK{q:Nat}{rt:List RTab}(h:rt.map aB=[[rB]]):bf [dL q] rt:=POk.back (wE q) (by rw[h];exact AB OE)
theorem QV{q:Nat}{rt:List RTab}(h:rt.map aB=[[rB]]):eG [dL q] rt cC=11:=by
 rw[yI (yK h) (by rw[O5];decide),O5]
open Go.RowKit Go
def Rk(z:Nat):Rcd:=⟨some ⟨z,0,none⟩,2,[qR,fQ],some ⟨z+1,0,none⟩,2,[5,8],0⟩
def rtL(z:Nat):List RTab:= [⟨some ⟨z+1+1,0,none⟩,1,[Rk z]⟩]
theorem PQ{w:World}{z:Nat}(hV:Blk w z 62 ([qR,fQ].flatMap Val.cells).toArray)(hI:Blk w (z+1) 3 ([(5:Int),8].flatMap intCells).toArray)(hR:Blk w (z+1+1) 126 ([Rk z].flatMap Rcd.cells).toArray)(hT:Blk w (z+1+1+1) 127 ((rtL z).flatMap RTab.cells).toArray):aR w w.heap.size (some ⟨z+1+1+1,0,none⟩) (rtL z):=by
 refine⟨Blk.all dx hT hT.lt,fun t ht =>?_⟩
 rw[List.mem_singleton.1 ht]
 refine⟨Blk.all bB hR hR.lt,fun r hr =>?_⟩
 rw[List.mem_singleton.1 hr]
 exact⟨Blk.all bP hV hV.lt,Blk.all bn hI hI.lt⟩
theorem vN(w:World):Calls Tryz.prog 27 #[] w fun e w'=>e=.returned (.bool true)∧Below w.heap.size w w':=by
 have htx:=fun u:World=>xm ⟨#[120]⟩ u
 rw[show clean ⟨2,0,⟨#[120]⟩⟩=vX from kT v_x]at htx
 simp only[vX]at htx
 have HTX:=qh htx
 clear htx
 go_enter Tryz.func27,Tryz.ntmps27
 go_upto_region 2 with (go_at_call 52;(refine(Nq 1 _ omA).mono ?_);rintro e w1 ⟨rfl,hb1⟩)
 have hwz:w.heap.size≤w1.heap.size:=hb1.1.size
 have hb1':Below w.heap.size w w1:=hb1.1
 refine ai (P:=fun u=>Code.wp _ _ _ _ u) (R:=fun u=>Blk u w1.heap.size 62 #[.int .i64 1,.int .i64 1,.string ⟨#[]⟩]∧Below w.heap.size w u) ⟨?_,?_⟩ ?_
 ·exact Blk.new' spA
 ·exact ak
 generalize w1.heap.size=z at *
 rintro W ⟨hV,hbW⟩
 have hzV:=hV.lt
 have HV:=qh hV
 have hy0:Below W.heap.size W W.drew:=brf.drew
 clear hV
 refine wp_region_held_drew (S:=fun u=>u.cell? ⟨z,0,none⟩=some (.int .i64 1)∧u.cell? ⟨z,1,none⟩=some (.int .i64 1)∧u.cell? ⟨z,2,none⟩=some (.string ⟨#[]⟩)) krA ⟨(HV.out).cell 0,(HV.out).cell 1,(HV.out).cell 2⟩ (fun hHeld =>?_)
 refine tkH 1 hHeld ?_
 refine tkH 5 hHeld ?_
 refine tkH 6 hHeld ?_
 refine wpAnyH_ready (rs:= [0]) krA spA ?_
 refine AllReadyH.cons rfl (fun K hK =>?_) AllReadyH.nil
 go_simp
 (go_at_call 67;(with_reducible refine(vM _).mono ?_))
 rintro e u1 ⟨⟨CA,cq,rfl,ht1⟩,hb1⟩
 have hy1:Below W.heap.size W u1:=ae hy0 hb1 hy0.size
 have HT1:=qh ht1
 clear ht1 hb1
 go_wp2_with fail
 refine hK.out _ _ ⟨((HV.out.below hy1 hzV)).cell 0,((HV.out.below hy1 hzV)).cell 1,((HV.out.below hy1 hzV)).cell 2⟩ (fun hHeld =>?_)
 clear hK K
 (try simp only[Act.put,gP6])
 refine wpAnyH_ready (rs:= [2]) krA spA ?_
 refine AllReadyH.cons rfl (fun K hK =>?_) AllReadyH.nil
 go_simp
 (go_at_call 68;(with_reducible refine(HTX.out _).mono ?_))
 rintro e u2 ⟨rfl,hb2⟩
 have hb2':Below u1.heap.size u1 u2:=hb2.1
 have hy2:Below W.heap.size W u2:=ae hy1 hb2' hy1.size
 have HT2:=qh (HT1.out.next hb2')
 have hz2:=hy2.size
 clear hb2 hb2' HT1
 go_wp2_with fail
 refine hK.out _ _ ⟨((HV.out.below hy2 hzV)).cell 0,((HV.out.below hy2 hzV)).cell 1,((HV.out.below hy2 hzV)).cell 2⟩ (fun hHeld =>?_)
 clear hK K
 (try simp only[Act.put,gP6])
 refine wpAnyH_ready (rs:= [3]) krA spA ?_
 refine AllReadyH.cons rfl (fun K hK =>?_) AllReadyH.nil
 go_simp
 generalize hu3:World.alloc u2 _=u3
 have hV3:Blk u3 u2.heap.size 62 ([qR,vX].flatMap Val.cells).toArray:=by rw[←hu3];exact(Blk.new' rfl).eq rfl
 have hb3:Below u2.heap.size u2 u3:=by rw[←hu3];exact ak
 have hz3:u2.heap.size<u3.heap.size:=by rw[←hu3];simp
 have hy3:Below W.heap.size W u3:=ae hy2 hb3 hz2
 have HV3:=qh hV3
 have HT3:=qh (HT2.out.next hb3)
 clear hu3 hV3 hb3 HT2
 go_wp2_with fail
 refine hK.out _ _ ⟨((HV.out.below hy3 hzV)).cell 0,((HV.out.below hy3 hzV)).cell 1,((HV.out.below hy3 hzV)).cell 2⟩ (fun hHeld =>?_)
 clear hK K
 (try simp only[Act.put,gP6])
 refine tkH 4 hHeld ?_
 refine wpAnyH_ready (rs:= [7]) krA spA ?_
 refine AllReadyH.cons rfl (fun K hK =>?_) AllReadyH.nil
 go_simp
 generalize hu4:World.alloc u3 _=u4
 have hL4:Blk u4 u3.heap.size 64 ([cA (some ⟨u2.heap.size,0,none⟩) 2,cB].flatMap Chg.cells).toArray:=by rw[←hu4];exact(Blk.new' rfl).eq rfl
 have hb4:Below u3.heap.size u3 u4:=by rw[←hu4];exact ak
 have hy4:Below W.heap.size W u4:=ae hy3 hb4 omA
 have HT4:=qh (HT3.out.next hb4)
 have HL4:Hid (dh u4 u4.heap.size (some ⟨u3.heap.size,0,none⟩) [cA (some ⟨u2.heap.size,0,none⟩) 2,cB]):=qh ⟨Blk.all bS hL4 hL4.lt,fun x hx=>by
  have hx:x=cA (some ⟨u2.heap.size,0,none⟩) 2∨x=cB:=by simpa using hx
  rcases hx with rfl|rfl
  ·exact((Blk.all bP HV3.out HV3.out.lt).next hb4)
  ·exact ah.nil⟩
 have hz4:u3.heap.size≤u4.heap.size:=hb4.size
 clear hu4 hL4 hb4 HT3 HV3
 go_wp2_with fail
 refine hK.out _ _ ⟨((HV.out.below hy4 hzV)).cell 0,((HV.out.below hy4 hzV)).cell 1,((HV.out.below hy4 hzV)).cell 2⟩ (fun hHeld =>?_)
 clear hK K
 (try simp only[Act.put,gP6])
 refine wpAnyH_ready (rs:= [8]) krA spA ?_
 refine AllReadyH.cons rfl (fun K hK =>?_) AllReadyH.nil
 go_simp
 (go_at_call 26;(with_reducible refine(BZ CA 1 1 [dL cq] (some ⟨u3.heap.size,0,none⟩) 2 2 [cA (some ⟨u2.heap.size,0,none⟩) 2,cB] _ HT4.out rfl (Ae _) (wE _) HL4.out rfl (by decide) (by simp[cA,cB]) (Rm _ _ _)).mono ?_))
 rintro e u5 ⟨⟨rq,rt,rfl,hrl,hrt,hru,hpu⟩,hb5⟩
 have Lc:rt.map aB=[[rB]]:=by rw[hpu,Cf]
 have hy5:Below W.heap.size W u5:=ae hy4 hb5 hy4.size
 have HRT:=qh hrt
 have HRL:=qh hrl
 have HPU:=qh Lc
 have hz5:=hb5.size
 clear hrt hrl hru hpu Lc hb5 HT4 HL4
 go_wp2_with fail
 refine hK.out _ _ ⟨((HV.out.below hy5 hzV)).cell 0,((HV.out.below hy5 hzV)).cell 1,((HV.out.below hy5 hzV)).cell 2⟩ (fun hHeld =>?_)
 clear hK K
 (try simp only[Act.put,gP6])
 refine tkH 9 hHeld ?_
 refine wpAnyH_done krA ?_ _
 clear hHeld
 have CR:iP rt:=((yK (q:= 0) HPU.out).shape).bZ (wE 0)
 have HSN:=qh CR
 have v0:=(HV.out.below hy5 hzV).cell 0
 have v1:=(HV.out.below hy5 hzV).cell 1
 have v2:=(HV.out.below hy5 hzV).cell 2
 simp only[gE3]at v0 v1 v2
 clear CR
 have HPE:Hid (rt.map aB=(rtL u5.heap.size).map aB):=qh (HPU.out.trans rfl)
 go_upto_region 5 with (go_at_call 25;generalize hu6:World.alloc (World.alloc (World.alloc (World.alloc u5 _) _) _) _=u6;have hb6:Below u5.heap.size u5 u6:=(by rw[←hu6];exact ak);have hLT:aR u6 u6.heap.size (some ⟨u5.heap.size+1+1+1,0,none⟩) (rtL u5.heap.size):=PQ (by rw[←hu6];exact((((Blk.new' rfl).eq rfl).alloc _).alloc _).alloc _) (by rw[←hu6];exact(((Blk.new' spA).eq rfl).alloc _).alloc _) (by rw[←hu6];exact((Blk.new' spA).eq rfl).alloc _) (by rw[←hu6];exact(Blk.new' spA).eq rfl);have HLT:=qh hLT;clear hu6 hLT;(with_reducible refine(kX (some ⟨rq,0,none⟩) (some ⟨u5.heap.size+1+1+1,0,none⟩) 1 1 1 1 rt (rtL u5.heap.size) _ (HRT.out.next hb6) HLT.out HRL.out rfl HSN.out HPE.out).mono ?_);rintro e u7 ⟨rfl,hb7⟩)
 have hy6:Below W.heap.size W u6:=ae hy5 hb6 hy5.size
 have hy7:Below W.heap.size W u7:=ae hy6 hb7 hy6.size
 have VD:=qh ((HRT.out.next hb6).next hb7)
 have hdr:Below u7.heap.size u7 u7.drew:=brf.drew
 have Wm:Below W.heap.size W u7.drew:=ae hy7 hdr hy7.size
 clear v0 v1 v2 hb6 hb7 HRT
 refine wp_region_held_drew (S:=fun u=>u.cell? ⟨z,0,none⟩=some (.int .i64 1)∧u.cell? ⟨z,1,none⟩=some (.int .i64 1)∧u.cell? ⟨z,2,none⟩=some (.string ⟨#[]⟩)) krA ⟨((HV.out.below hy7 hzV)).cell 0,((HV.out.below hy7 hzV)).cell 1,((HV.out.below hy7 hzV)).cell 2⟩ (fun hHeld =>?_)
 refine tkH 1 hHeld ?_
 refine tkH 2 hHeld ?_
 refine tkH 3 hHeld ?_
 refine tkH 4 hHeld ?_
 refine wpAnyH_ready (rs:= [0]) krA spA ?_
 refine AllReadyH.cons rfl (fun K hK =>?_) AllReadyH.nil
 go_simp
 (go_at_call 67;(with_reducible refine(vM _).mono ?_))
 rintro e u8 ⟨⟨CB,cr,rfl,ht8⟩,hb8⟩
 have SY:Below u7.heap.size u7 u8:=hdr.trans hb8
 have hy8:Below W.heap.size W u8:=ae hy7 SY hy7.size
 have hck:=Ca CB 1 1 [dL cr] (some ⟨rq,0,none⟩) 1 1 rt 2 9 0 0 none 0 [] qR 0 qR u8 ht8 rfl (Ae _) (wE _) (VD.out.next SY) HRL.out HSN.out ah.nil spA (QV HPU.out)
 simp only[List.length_nil,qR]at hck
 have HCK:=qh hck
 clear hck ht8 hb8
 go_wp2_with fail
 refine hK.out _ _ ⟨((HV.out.below hy8 hzV)).cell 0,((HV.out.below hy8 hzV)).cell 1,((HV.out.below hy8 hzV)).cell 2⟩ (fun hHeld =>?_)
 clear hK K
 (try simp only[Act.put,gP6])
 refine wpAnyH_ready (rs:= [5]) krA spA ?_
 refine AllReadyH.cons rfl (fun K hK =>?_) AllReadyH.nil
 go_simp
 (go_at_call 69;(with_reducible refine HCK.out.mono ?_))
 rintro e u9 ⟨rfl,hb9⟩
 have hy9:Below W.heap.size W u9:=ae hy8 hb9 hy8.size
 clear hb9
 go_wp2_with fail
 refine hK.out _ _ ⟨((HV.out.below hy9 hzV)).cell 0,((HV.out.below hy9 hzV)).cell 1,((HV.out.below hy9 hzV)).cell 2⟩ (fun hHeld =>?_)
 clear hK K
 (try simp only[Act.put,gP6])
 refine tkH 6 hHeld ?_
 refine tkH 7 hHeld ?_
 refine wpAnyH_done krA ?_ _
 clear hHeld
 go_wp2_with fail
 go_ret
 exact⟨rfl,ae hbW hy9 hbW.size⟩
end Go.Proofs.YtebippoohpnjkaaGreat
