/-
  Contracts and plain laws of this seat, part 44.
-/
import Derived.Test.YtebippoohpnjkaaGreatF43
set_option linter.unusedVariables false
set_option linter.unusedSimpArgs false
set_option maxRecDepth 100000
set_option maxHeartbeats 16000000
namespace Go.Proofs.YtebippoohpnjkaaGreat
open Go.RowKit Go
theorem eK{P:Prop}(h:P:=by simp[hsz,g0,g3,g4,g5,g6,g79]):P:=h
theorem eL{P:Prop}(h:P:=by simp[Act.eval,hsz]):P:=h
theorem eM{P:Prop}(h:P:=by simp[hsz,g3]):P:=h
theorem eN{P:Prop}(h:P:=by simp[hsz,g4]):P:=h
theorem eR{P:Prop}(h:P:=by simp[hsz]):P:=h
theorem eS{P:Prop}(h:P:=by simpa using hc6):P:=h
theorem eV{P:Prop}(h:P:=by simp[Oth.names]):P:=h
theorem eW{P:Prop}(h:P:=by simp[Tab.cells,HN.out]):P:=h
theorem e9{P:Prop}(h:P:=by show w.heap.size+1≠w.heap.size;omega):P:=h
theorem KR:(Tryz.prog.info? 108).map (fun i=>(i.zero,i.size,i.bytes))=some (some (.agg #[.string ⟨#[]⟩,.int .i64 0,.string ⟨#[]⟩,.string ⟨#[]⟩,.slice none 0 0,.slice none 0 0,.slice none 0 0,.bool false,.slice none 0 0]),9,160):=by kernel_rfl
def Ag:Unit→List Value:=fun _=>List.replicate 9 (.bool false)
theorem Pf:∀x:Unit,(Ag x).length=9:=fun _=>rfl
theorem Pb:∀x:Unit,∀u∈Ag x,u.oneCell'=true:=by
 intro x u hu
 obtain rfl:=List.eq_of_mem_replicate hu
 rfl
def lT(n:Nat):Code→Option Code
 | .loop c=>lT n c
 | .seq a b=>match lT n a with
   | some c=>some c
   | none=>lT n b
 | .block id c=>if id=n then some (.block id c) else lT n c
 | .scope c=>lT n c
 | .cond _ a b=>match lT n a with
   | some c=>some c
   | none=>lT n b
 | _=>none
noncomputable def O7(f:Func)(n:Nat):Code:=(f.body.bind (lT n)).getD .skip
theorem El(T:Array Value)(w W6:World)(g b b1 b2 cT cC r n:Nat)(vA:Option Addr)(vc:Nat)(ts:List Tab)(t:Tab)(K:Exit→Act→World→Prop)(hPP:∀c a d v u,K (.panic c) (Act.put a d v) u→K (.panic c) a u)
 (hsz:T.size=290) (h3:T[3]?=some (.pointer (some ⟨w.heap.size,0,none⟩))) (v4:Value) (h4:T[4]?=some v4) (h5:T[5]?=some (.pointer (some ⟨b1,r*4,none⟩)))
 (hgl:g<w.heap.size) (hbl:b<w.heap.size) (hr':r<ts.length) (htr:ts[r]=t) (hn:t.af.length=n) (hcl:0<n∧n≤8) (hS:aI ts)
 (hI:SpO w W6 g b b1 b2 cT cC r ts ⟨t.name,some ⟨b2,0,none⟩,cC,t.af,t.erase,t.eD⟩ t.af (xC vA vc))
 (hK:∀T' u,T'.size=290→T'[3]?=some (.pointer (some ⟨w.heap.size,0,none⟩))→T'[4]?=some v4→jm w g b b1 cT r ts u→K .normal ⟨T',[]⟩ u):
 Code.wp Tryz.prog (O7 Tryz.f13 1) K ⟨T,[]⟩ W6:=by
 obtain⟨ic,hic,sV,sU,sS⟩:=info_parts A7
 have HTR:=qh htr
 have HN:=qh hn
 have HI:=qh hI
 have HKP:=qh fun(u:World)=>uP (w:=w) (u:=u) (g:=g) hS hr'
 rw[htr]at HKP
 have hnm:t.name.size≤1000000:=by have h:=hS.tabs _ (lgm hr');rw[htr]at h;exact h.name
 clear htr hn hI hS
 conv=>arg 2;whnf
 apply wp_block
 refine wp_loop_ghost (fun k a u =>∃X b3 c3 L,a=⟨X,[]⟩∧X.size=290∧X[3]?=some (.pointer (some ⟨w.heap.size,0,none⟩))∧X[4]?=some v4∧X[5]?=some (.pointer (some ⟨b1,r*4,none⟩))∧SpO w u g b b1 b3 cT c3 r ts ⟨t.name,some ⟨b3,0,none⟩,c3,L,t.erase,t.eD⟩ L (xC vA vc)∧L.length+k=9 ∧ ∀x∈L,x∈t.af ∨ ∃nm:ByteArray,nm.size≤1000∧x=⟨nm,1,⟨#[]⟩,⟨#[]⟩,none,0,[],0,0⟩) (9-n)
  ⟨_,b2,cC,t.af,rfl,hsz,h3,h4,h5,HI.out,by rw[HN.out];omega,fun x hx =>.inl hx⟩ ?_
 clear hsz h3 h4 h5
 rintro k a wr ⟨X,b3,c3,L,rfl,hsz,h3,h4,h5,hO,hL,hx⟩
 obtain⟨_,g3⟩:=Array.getElem_of_getElem? h3
 obtain⟨_,g4⟩:=Array.getElem_of_getElem? h4
 obtain⟨_,g5⟩:=Array.getElem_of_getElem? h5
 obtain⟨m,hm⟩:∃m,L.length=m:=⟨_,rfl⟩
 have c1:=hO.mem.nO hr' (j:= 1) rfl
 have hft:=hO.mem.tH
 rw[hm]at c1 hL
 have HO:=qh hO
 have HX:=qh hx
 have HM:=qh hm
 have HL:=qh hL
 have hm9:m≤9:=by omega
 clear h3 h4 h5 hO hx hm hL
 go_upto_if 236 with (fail)
 refine wp_cond_split (t:=decide ((m:Int)≤8)) eL (fun e8 =>?_) (fun e8 =>?_)
 ·have hm8:m≤8:=by have:=of_decide_eq_true e8;omega
  have hw3:=HO.out.mem.grown.size
  have Xh:¬ b1=b3:=HO.out.mem.ne
  clear e8
  go_upto_region 44 with (fail)
  refine aY (S:=fun u=>u.cell? ⟨b1,r*4+1,none⟩=some (.slice (some ⟨b3,0,none⟩) m c3)) [16] krA c1 (fun hHeld =>?_)
  refine tkT 0 hHeld ?_ (hQ:=fun c a u h=>hPP c _ _ _ u h)
  refine tkT 1 hHeld ?_ (hQ:=fun c a u h=>hPP c _ _ _ u h)
  refine tkT 2 hHeld ?_ (hQ:=fun c a u h=>hPP c _ _ _ u h)
  refine tkT 3 hHeld ?_ (hQ:=fun c a u h=>hPP c _ _ _ u h)
  refine tkT 4 hHeld ?_ (hQ:=fun c a u h=>hPP c _ _ _ u h)
  refine tkT 5 hHeld ?_ (hQ:=fun c a u h=>hPP c _ _ _ u h)
  refine tkT 6 hHeld ?_ (hQ:=fun c a u h=>hPP c _ _ _ u h)
  refine tkT 7 hHeld ?_ (hQ:=fun c a u h=>hPP c _ _ _ u h)
  refine tkT 8 hHeld ?_ (hQ:=fun c a u h=>hPP c _ _ _ u h)
  refine tkT 9 hHeld ?_ (hQ:=fun c a u h=>hPP c _ _ _ u h)
  refine r1T 10 (fun K hK =>?_)
  go_simp
  (go_at_call 34;(with_reducible refine(qa ⟨#[122]⟩ m omA (by decide) _).mono ?_))
  rintro e w4 ⟨rfl,hb4⟩
  have S9:Below wr.heap.size wr w4:=brf.drew.trans hb4
  have hO4:=HO.out.below S9
  have HO4:=qh hO4
  have c4:=hO4.mem.nO hr' (j:= 1) rfl
  rw[HM.out]at c4
  have hw4:=hO4.mem.grown.size
  clear hb4 S9 hO4
  go_wp2_with fail
  refine hK _ _ _ c4 (fun hHeld =>?_)
  clear hK K c1 hft
  (try simp only[Act.put,gP6])
  have Xj:=HO4.out.mem.tab.lt b1 rfl
  obtain⟨zc,hzc⟩:∃zc:Col,zc=⟨⟨#[122]⟩++⟨#[rF m]⟩,1,⟨#[]⟩,⟨#[]⟩,none,0,[],0,0⟩:=⟨_,rfl⟩
  have HZC:=qh hzc
  have HCL:Hid (ax w4 w.heap.size 79 Col.cells 7 (.slice (some ⟨b3,0,none⟩) m c3) L):=qh (by have h:=HO4.out.mem.col;rwa [HM.out]at h)
  clear hzc
  refine tkT 11 hHeld ?_ (hQ:=fun c a u h=>hPP c _ _ _ u h)
  refine r1T 12 (fun K hK =>?_)
  go_simp
  refine hK.out _ _ _ ?_ (fun hHeld =>?_)
  ·go_simp
  clear hK K
  (try simp only[Act.put,gP6])
  refine r1T 13 (fun K hK =>?_)
  (refine aC _ rfl (.tmp 241) (.tmp 249) 75 rfl 79 ic _ Col.cells 7 96 Tryz.underlying75 hic sV sU sS rfl omA dS BD w.heap.size (.slice (some ⟨b3,0,none⟩) m c3) L eL (HCL.out.alloc _) (some ⟨w4.heap.size,0,none⟩) 1 1 [zc] eL rfl (Blk.one (enc:=Col.cells) (x:=zc) (by rw[HZC.out];exact Blk.new' rfl) spA) (by rw[HM.out];simp;omega) (by rw[HM.out];simp[maxLen];omega) smA ?_)
  intro v' w6 hown' hg' hat'
  obtain⟨b4,c5,hv,hbb⟩:=hat'.elim (fun h=>hown'.gW h) (fun h=>hown'.gW h)
  subst hv
  have hb3:=HO4.out.mem.lo2
  have Vg:=HO4.out.mem.n2
  have Vf:=HO4.out.mem.col.bT HO4.out.res nU b3 rfl
  have h6:SpM w w6 w.heap.size g b b1 b4 cT c5 r ts ⟨t.name,some ⟨b3,0,none⟩,c3,L,t.erase,t.eD⟩ (L ++ [zc]) #[.slice (some ⟨b1,0,none⟩) ts.length cT,.slice vA 0 vc,.slice none 0 0,.slice none 0 0,.slice none 0 0,.slice none 0 0,.slice none 0 0,.slice none 0 0]:=
   ⟨(HO4.out.mem.tab.alloc _).kept hg' (HO4.out.mem.tab.fD HCL.out OA),hown',(HO4.out.mem.cat.alloc _).grown hg' (gL (fun e=>Vg e.symm)),(HO4.out.mem.tape.alloc _).uM hg' (gL omA) (gL omA),gu (bW HO4.out.mem.grown _) hg' (bR hb3)⟩
  have hq6:Blk w6 (w.heap.size+1) 39 #[.slice none 0 0,.slice none 0 0,.slice none 0 0,.slice none 0 0,.slice none 0 0,.slice none 0 0,.slice none 0 0,.slice none 0 0]:=(HO4.out.res.alloc _).grown hg' (gL (fun e=>Vf e.symm))
  have c6:=h6.nO hr' (j:= 1) rfl
  have hft:=h6.tH
  rw[HM.out]at c6
  have H6:=qh h6
  have HQ6:=qh hq6
  obtain⟨m1,hm1⟩:∃m1,(L ++ [zc]).length=m1:=⟨_,rfl⟩
  have HM1:=qh hm1
  clear h6 hq6 hown' hg' hat' c4
  rw[hm1]
  clear hm1
  refine hK.out _ _ _ c6 (fun hHeld =>?_)
  clear hK K
  (try simp only[Act.put,gP6])
  refine r1T 14 (fun K hK =>?_)
  go_simp
  refine hK.out _ _ _ c6 (fun hHeld =>?_)
  clear hK K
  (try simp only[Act.put,gP6])
  refine tkT 15 hHeld ?_ (hQ:=fun c a u h=>hPP c _ _ _ u h)
  refine rzT 16 (fun K hK =>?_)
  clear hHeld
  go_simp
  refine hK.out _ _ _ ?_
  clear hK K
  refine bE krA ?_ _
  have hL:=HL.out
  have hml:=HM1.out
  subst hml
  refine⟨k-1,by omega,_,b4,c5,L ++ [zc],rfl,by simp[hsz],by simp[hsz,g3],by simp[hsz,g4],by simp[hsz,g5],SpO.nil (H6.out.Hg hr' hgl hbl ⟨t.name,some ⟨b4,0,none⟩,c5,L ++ [zc],t.erase,t.eD⟩ (j:= 1) omA rfl rfl) (HQ6.out.far (fun e=>H6.out.tab.bT HQ6.out qC b1 rfl e.symm) _),by rw[List.length_append,HM.out];simp;omega,fun x hx =>?_⟩
  rcases List.mem_append.1 hx with h|h
  ·exact HX.out x h
  ·exact .inr ⟨⟨#[122]⟩++⟨#[rF m]⟩,by rw[ByteArray.size_append];show 1+1≤1000;omega,(List.mem_singleton.1 h).trans HZC.out⟩
 ·obtain rfl:m=9:=by have:=of_decide_eq_false e8;omega
  clear e8
  go_wp2_with fail
  refine hK _ _ eR eM eN ?_
  refine jm.of HO.out (jG vA vc) hgl rfl rfl rfl hnm (by rw[HM.out];omega) fun x hx =>?_
  rcases HX.out x hx with h|⟨nm,hn1,rfl⟩
  ·exact HKP.out _ x h
  ·exact⟨⟨by show nm.size≤_;omega,Nat.zero_le _,Nat.zero_le _,Nat.zero_le _⟩,.inr ⟨ah.nil,fun a ha=>(by cases ha)⟩⟩
theorem fV{T:Array Value}{P:Array Value→Prop}(n k:Nat)(v0 v3 v4 v5 v6 v79:Value)(h:T.size=n∧T[0]?=some v0∧T[3]?=some v3∧T[4]?=some v4∧T[5]?=some v5∧T[6]?=some v6∧T[79]?=some v79)
 (hp:∀X:Array Value,X.size=n→X[0]?=some v0→X[3]?=some v3→X[4]?=some v4→X[5]?=some v5→X[6]?=some v6→X[79]?=some v79→P X):P T:=hp T h.1 h.2.1 h.2.2.1 h.2.2.2.1 h.2.2.2.2.1 h.2.2.2.2.2.1 h.2.2.2.2.2.2
theorem Cb(T:Array Value)(w W6:World)(g b b1 b2 cT cC r q r3 n:Nat)(vA:Option Addr)(vc:Nat)(ts:List Tab)(t:Tab)(K:Exit→Act→World→Prop)(hPP:∀c a d v u,K (.panic c) (Act.put a d v) u→K (.panic c) a u)
 (hsz:T.size=290) (h0:T[0]?=some (.pointer (some ⟨g,0,none⟩))) (h3:T[3]?=some (.pointer (some ⟨w.heap.size,0,none⟩))) (v4:Value) (h4:T[4]?=some v4) (h5:T[5]?=some (.pointer (some ⟨b1,r*4,none⟩))) (h6:T[6]?=some (.pointer (some ⟨b2,q*7,none⟩))) (h79:T[79]?=some (.int .i64 r3))
 (hgl:g<w.heap.size) (hbl:b<w.heap.size) (hr':r<ts.length) (EZ:r3<16) (htr:ts[r]=t) (hn:t.af.length=n) (hcl:0<n∧n≤8) (hqc:q<t.af.length) (hS:aI ts)
 (hI:SpM w W6 w.heap.size g b b1 b2 cT cC r ts ⟨t.name,some ⟨b2,0,none⟩,cC,t.af,t.erase,t.eD⟩ t.af #[.slice (some ⟨b1,0,none⟩) ts.length cT,.slice vA 0 vc,.slice none 0 0,.slice none 0 0,.slice none 0 0,.slice none 0 0,.slice none 0 0,.slice none 0 0]) (hQ:Blk W6 (w.heap.size+1) 39 #[.slice none 0 0,.slice none 0 0,.slice none 0 0,.slice none 0 0,.slice none 0 0,.slice none 0 0,.slice none 0 0,.slice none 0 0])
 (hK:∀T' u,T'.size=290→T'[3]?=some (.pointer (some ⟨w.heap.size,0,none⟩))→T'[4]?=some v4→jm w g b b1 cT r ts u→K .normal ⟨T',[]⟩ u):
 Code.wp Tryz.prog (O7 Tryz.f13 0) K ⟨T,[]⟩ W6:=by
 have HTR:=qh htr
 have HN:=qh hn
 have HI:=qh hI
 have HQ:=qh hQ
 have HSC:=qh hS
 have hwz:=HI.out.grown.size
 have HSX:Hid (jR t.af[q]):=qh (by have h:=hS.tabs _ (lgm hr');rw[htr]at h;exact h.af _ (lgm hqc))
 have HKP:=qh fun(u:World)=>uP (w:=w) (u:=u) (g:=g) hS hr'
 have HST:=qh fun(u:World) (q:Nat) (y:Col)=>Mj (w:=w) (u:=u) (g:=g) (q:=q) (y:=y) hS hr'
 rw[htr]at HKP HST
 have hnm:t.name.size≤1000000:=by have h:=hS.tabs _ (lgm hr');rw[htr]at h;exact h.name
 have hc6:t.af.length≤1000000:=by rw[hn];omega
 obtain⟨_,g0⟩:=Array.getElem_of_getElem? h0
 obtain⟨_,g3⟩:=Array.getElem_of_getElem? h3
 obtain⟨_,g4⟩:=Array.getElem_of_getElem? h4
 obtain⟨_,g5⟩:=Array.getElem_of_getElem? h5
 obtain⟨_,g6⟩:=Array.getElem_of_getElem? h6
 obtain⟨_,g79⟩:=Array.getElem_of_getElem? h79
 clear htr hn hI hQ hS h0 h3 h4 h5 h6 h79
 conv=>arg 2;whnf
 go_wp2_with fail
 refine wp_cond_split (t:=(r3:Int) == 0) eL (fun t0' =>?_) (fun n0' =>?_)
 ·clear t0'
  go_wp2_with fail
  (with_reducible refine(aA g b 5 _ (HI.out.tape.alloc _) omA omA).mono ?_)
  rintro e w7 ⟨r4,rfl,hr4,hk7,hg7⟩
  have zm:r4<5:=by rcases hr4 with h|h<;>omega
  have HI7:=qh ((HI.out.alloc _).next hg7 hk7 hgl omA)
  have HQ7:=qh ((HQ.out.alloc _).grown hg7 inA)
  have hS7:=Blk.grown (Blk.new _ _ _) hg7 inA
  have hz7:=hS7.lt
  have hft:=HI7.out.tH
  have hfc:=HI7.out.wu
  clear hr4 hk7 hg7
  obtain⟨s,hs,hss⟩:∃s:ByteArray,w7.cell? ⟨W6.heap.size,r4,none⟩=some (.string s)∧s.size≤1000000:=by
   rw[hS7.cell]
   rcases(show r4=0∨r4=1∨r4=2∨r4=3∨r4=4 by omega) with rfl|rfl|rfl|rfl|rfl
   all_goals exact⟨_,rfl,by decide⟩
  clear hS7
  have cT7:=HI7.out.nO hr' (j:= 0) rfl
  (try simp only[Nat.add_zero]at cT7)
  go_wp2_with fail
  refine hK _ _ eR eM eN ?_
  exact jm.of (SpO.nil (HI7.out.Hg hr' hgl hbl ⟨s,some ⟨b2,0,none⟩,cC,t.af,t.erase,t.eD⟩ (j:= 0) omA rfl rfl) (HQ7.out.far (fun e=>HI7.out.tab.bT HQ7.out qC b1 rfl e.symm) _)) (jG vA vc) hgl rfl rfl rfl hss hc6 (HKP.out _)
 clear n0'
 refine fV (P:=fun X=>Code.wp _ _ _ ⟨X,_⟩ _) 290 0 (.pointer (some ⟨g,0,none⟩)) (.pointer (some ⟨w.heap.size,0,none⟩)) v4 (.pointer (some ⟨b1,r*4,none⟩)) (.pointer (some ⟨b2,q*7,none⟩)) (.int .i64 r3) eK ?_
 clear hsz g0 g3 g4 g5 g6 g79
 intro T hsz h0 h3 h4 h5 h6 h79
 obtain⟨_,g0⟩:=Array.getElem_of_getElem? h0
 obtain⟨_,g3⟩:=Array.getElem_of_getElem? h3
 obtain⟨_,g4⟩:=Array.getElem_of_getElem? h4
 obtain⟨_,g5⟩:=Array.getElem_of_getElem? h5
 obtain⟨_,g6⟩:=Array.getElem_of_getElem? h6
 obtain⟨_,g79⟩:=Array.getElem_of_getElem? h79
 clear h0 h3 h4 h5 h6 h79
 go_wp2_with fail
 refine wp_cond_split (t:=(r3:Int) == 1) eL (fun t0' =>?_) (fun n0' =>?_)
 ·clear t0'
  go_wp2_with fail
  (with_reducible refine(aA g b 4 _ HI.out.tape omA omA).mono ?_)
  rintro e w7 ⟨r4,rfl,hr4,hk7,hg7⟩
  have zm:r4<4:=by rcases hr4 with h|h<;>omega
  have HI7:=qh (HI.out.next hg7 hk7 hgl omA)
  have HQ7:=qh (HQ.out.grown hg7 inA)
  have hft:=HI7.out.tH
  have hfc:=HI7.out.wu
  clear hr4 hk7 hg7
  have cT7:=HI7.out.nO hr' (j:= 2) rfl
  (try simp only[Nat.add_zero]at cT7)
  go_wp2_with fail
  refine hK _ _ eR eM eN ?_
  exact jm.of (SpO.nil (HI7.out.Hg hr' hgl hbl ⟨t.name,some ⟨b2,0,none⟩,cC,t.af,(r4:Int)-1,t.eD⟩ (j:= 2) omA rfl rfl) (HQ7.out.far (fun e=>HI7.out.tab.bT HQ7.out qC b1 rfl e.symm) _)) (jG vA vc) hgl rfl rfl rfl hnm hc6 (HKP.out _)
 clear n0'
 refine fV (P:=fun X=>Code.wp _ _ _ ⟨X,_⟩ _) 290 0 (.pointer (some ⟨g,0,none⟩)) (.pointer (some ⟨w.heap.size,0,none⟩)) v4 (.pointer (some ⟨b1,r*4,none⟩)) (.pointer (some ⟨b2,q*7,none⟩)) (.int .i64 r3) eK ?_
 clear hsz g0 g3 g4 g5 g6 g79
 intro T hsz h0 h3 h4 h5 h6 h79
 obtain⟨_,g0⟩:=Array.getElem_of_getElem? h0
 obtain⟨_,g3⟩:=Array.getElem_of_getElem? h3
 obtain⟨_,g4⟩:=Array.getElem_of_getElem? h4
 obtain⟨_,g5⟩:=Array.getElem_of_getElem? h5
 obtain⟨_,g6⟩:=Array.getElem_of_getElem? h6
 obtain⟨_,g79⟩:=Array.getElem_of_getElem? h79
 clear h0 h3 h4 h5 h6 h79
 go_wp2_with fail
 refine wp_cond_split (t:=(r3:Int) == 2) eL (fun t0' =>?_) (fun n0' =>?_)
 ·clear t0'
  go_wp2_with fail
  (with_reducible refine(aA g b 4 _ (HI.out.tape.alloc _) omA omA).mono ?_)
  rintro e w7 ⟨r4,rfl,hr4,hk7,hg7⟩
  have zm:r4<4:=by rcases hr4 with h|h<;>omega
  have HI7:=qh ((HI.out.alloc _).next hg7 hk7 hgl omA)
  have HQ7:=qh ((HQ.out.alloc _).grown hg7 inA)
  have hS7:=Blk.grown (Blk.new _ _ _) hg7 inA
  have hz7:=hS7.lt
  have hft:=HI7.out.tH
  have hfc:=HI7.out.wu
  clear hr4 hk7 hg7
  obtain⟨z,hs⟩:∃z:Int,w7.cell? ⟨W6.heap.size,r4,none⟩=some (.int .i64 z):=by
   rw[hS7.cell]
   rcases(show r4=0∨r4=1∨r4=2∨r4=3 by omega) with rfl|rfl|rfl|rfl
   all_goals exact⟨_,rfl⟩
  clear hS7
  have cT7:=HI7.out.nO hr' (j:= 3) rfl
  (try simp only[Nat.add_zero]at cT7)
  go_wp2_with fail
  refine hK _ _ eR eM eN ?_
  exact jm.of (SpO.nil (HI7.out.Hg hr' hgl hbl ⟨t.name,some ⟨b2,0,none⟩,cC,t.af,t.erase,z⟩ (j:= 3) omA rfl rfl) (HQ7.out.far (fun e=>HI7.out.tab.bT HQ7.out qC b1 rfl e.symm) _)) (jG vA vc) hgl rfl rfl rfl hnm hc6 (HKP.out _)
 clear n0'
 refine fV (P:=fun X=>Code.wp _ _ _ ⟨X,_⟩ _) 290 0 (.pointer (some ⟨g,0,none⟩)) (.pointer (some ⟨w.heap.size,0,none⟩)) v4 (.pointer (some ⟨b1,r*4,none⟩)) (.pointer (some ⟨b2,q*7,none⟩)) (.int .i64 r3) eK ?_
 clear hsz g0 g3 g4 g5 g6 g79
 intro T hsz h0 h3 h4 h5 h6 h79
 obtain⟨_,g0⟩:=Array.getElem_of_getElem? h0
 obtain⟨_,g3⟩:=Array.getElem_of_getElem? h3
 obtain⟨_,g4⟩:=Array.getElem_of_getElem? h4
 obtain⟨_,g5⟩:=Array.getElem_of_getElem? h5
 obtain⟨_,g6⟩:=Array.getElem_of_getElem? h6
 obtain⟨_,g79⟩:=Array.getElem_of_getElem? h79
 clear h0 h3 h4 h5 h6 h79
 go_wp2_with fail
 refine wp_cond_split (t:=(r3:Int) == 3) eL (fun t0' =>?_) (fun n0' =>?_)
 ·clear t0'
  go_wp2_with fail
  (with_reducible refine(aA g b 4 _ (HI.out.tape.alloc _) omA omA).mono ?_)
  rintro e w7 ⟨r4,rfl,hr4,hk7,hg7⟩
  have zm:r4<4:=by rcases hr4 with h|h<;>omega
  have HI7:=qh ((HI.out.alloc _).next hg7 hk7 hgl omA)
  have HQ7:=qh ((HQ.out.alloc _).grown hg7 inA)
  have hS7:=Blk.grown (Blk.new _ _ _) hg7 inA
  have hz7:=hS7.lt
  have hft:=HI7.out.tH
  have hfc:=HI7.out.wu
  clear hr4 hk7 hg7
  obtain⟨s,hs,hss⟩:∃s:ByteArray,w7.cell? ⟨W6.heap.size,r4,none⟩=some (.string s)∧s.size≤1000000:=by
   rw[hS7.cell]
   rcases(show r4=0∨r4=1∨r4=2∨r4=3 by omega) with rfl|rfl|rfl|rfl
   all_goals exact⟨_,rfl,by decide⟩
  clear hS7
  have cC7:=HI7.out.pK hqc (j:= 0) rfl
  (try simp only[Nat.add_zero]at cC7)
  go_wp2_with fail
  refine hK _ _ eR eM eN ?_
  exact jm.of (SpO.nil (HI7.out.Cc hgl hbl hqc ⟨s,t.af[q].ty,t.af[q].ns,t.af[q].refs,t.af[q].A,t.af[q].cap,t.af[q].own,t.af[q].joint,t.af[q].eF⟩ (j:= 0) omA rfl rfl) (HQ7.out.far (fun e=>HI7.out.col.bT HQ7.out nU b2 rfl e.symm) _)) (jG vA vc) hgl rfl rfl spA hnm eS (HST.out _ q ⟨s,t.af[q].ty,t.af[q].ns,t.af[q].refs,t.af[q].A,t.af[q].cap,t.af[q].own,t.af[q].joint,t.af[q].eF⟩ ⟨⟨hss,HSX.out.ns,HSX.out.refs,HSX.out.own⟩,.inl ⟨hr',t.af[q],by rw[HTR.out];exact lgm hqc,rfl,rfl⟩⟩)
 clear n0'
 refine fV (P:=fun X=>Code.wp _ _ _ ⟨X,_⟩ _) 290 0 (.pointer (some ⟨g,0,none⟩)) (.pointer (some ⟨w.heap.size,0,none⟩)) v4 (.pointer (some ⟨b1,r*4,none⟩)) (.pointer (some ⟨b2,q*7,none⟩)) (.int .i64 r3) eK ?_
 clear hsz g0 g3 g4 g5 g6 g79
 intro T hsz h0 h3 h4 h5 h6 h79
 obtain⟨_,g0⟩:=Array.getElem_of_getElem? h0
 obtain⟨_,g3⟩:=Array.getElem_of_getElem? h3
 obtain⟨_,g4⟩:=Array.getElem_of_getElem? h4
 obtain⟨_,g5⟩:=Array.getElem_of_getElem? h5
 obtain⟨_,g6⟩:=Array.getElem_of_getElem? h6
 obtain⟨_,g79⟩:=Array.getElem_of_getElem? h79
 clear h0 h3 h4 h5 h6 h79
 go_wp2_with fail
 refine wp_cond_split (t:=(r3:Int) == 4) eL (fun t0' =>?_) (fun n0' =>?_)
 ·clear t0'
  go_wp2_with fail
  (with_reducible refine(aA g b 4 _ HI.out.tape omA omA).mono ?_)
  rintro e w7 ⟨r4,rfl,hr4,hk7,hg7⟩
  have zm:r4<4:=by rcases hr4 with h|h<;>omega
  have HI7:=qh (HI.out.next hg7 hk7 hgl omA)
  have HQ7:=qh (HQ.out.grown hg7 inA)
  have hft:=HI7.out.tH
  have hfc:=HI7.out.wu
  clear hr4 hk7 hg7
  have cC7:=HI7.out.pK hqc (j:= 1) rfl
  (try simp only[Nat.add_zero]at cC7)
  go_wp2_with fail
  refine hK _ _ eR eM eN ?_
  exact jm.of (SpO.nil (HI7.out.Cc hgl hbl hqc ⟨t.af[q].name,(r4:Int),t.af[q].ns,t.af[q].refs,t.af[q].A,t.af[q].cap,t.af[q].own,t.af[q].joint,t.af[q].eF⟩ (j:= 1) omA rfl rfl) (HQ7.out.far (fun e=>HI7.out.col.bT HQ7.out nU b2 rfl e.symm) _)) (jG vA vc) hgl rfl rfl spA hnm eS (HST.out _ q ⟨t.af[q].name,(r4:Int),t.af[q].ns,t.af[q].refs,t.af[q].A,t.af[q].cap,t.af[q].own,t.af[q].joint,t.af[q].eF⟩ ⟨⟨HSX.out.name,HSX.out.ns,HSX.out.refs,HSX.out.own⟩,.inl ⟨hr',t.af[q],by rw[HTR.out];exact lgm hqc,rfl,rfl⟩⟩)
 clear n0'
 refine fV (P:=fun X=>Code.wp _ _ _ ⟨X,_⟩ _) 290 0 (.pointer (some ⟨g,0,none⟩)) (.pointer (some ⟨w.heap.size,0,none⟩)) v4 (.pointer (some ⟨b1,r*4,none⟩)) (.pointer (some ⟨b2,q*7,none⟩)) (.int .i64 r3) eK ?_
 clear hsz g0 g3 g4 g5 g6 g79
 intro T hsz h0 h3 h4 h5 h6 h79
 obtain⟨_,g0⟩:=Array.getElem_of_getElem? h0
 obtain⟨_,g3⟩:=Array.getElem_of_getElem? h3
 obtain⟨_,g4⟩:=Array.getElem_of_getElem? h4
 obtain⟨_,g5⟩:=Array.getElem_of_getElem? h5
 obtain⟨_,g6⟩:=Array.getElem_of_getElem? h6
 obtain⟨_,g79⟩:=Array.getElem_of_getElem? h79
 clear h0 h3 h4 h5 h6 h79
 go_wp2_with fail
 refine wp_cond_split (t:=(r3:Int) == 5) eL (fun t0' =>?_) (fun n0' =>?_)
 ·clear t0'
  go_wp2_with fail
  (with_reducible refine(aA g b 3 _ (HI.out.tape.alloc _) omA omA).mono ?_)
  rintro e w7 ⟨r4,rfl,hr4,hk7,hg7⟩
  have zm:r4<3:=by rcases hr4 with h|h<;>omega
  have HI7:=qh ((HI.out.alloc _).next hg7 hk7 hgl omA)
  have HQ7:=qh ((HQ.out.alloc _).grown hg7 inA)
  have hS7:=Blk.grown (Blk.new _ _ _) hg7 inA
  have hz7:=hS7.lt
  have hft:=HI7.out.tH
  have hfc:=HI7.out.wu
  clear hr4 hk7 hg7
  obtain⟨s,hs,hss⟩:∃s:ByteArray,w7.cell? ⟨W6.heap.size,r4,none⟩=some (.string s)∧s.size≤1000000:=by
   rw[hS7.cell]
   rcases(show r4=0∨r4=1∨r4=2 by omega) with rfl|rfl|rfl
   all_goals exact⟨_,rfl,by decide⟩
  clear hS7
  have cC7:=HI7.out.pK hqc (j:= 2) rfl
  (try simp only[Nat.add_zero]at cC7)
  go_wp2_with fail
  refine hK _ _ eR eM eN ?_
  exact jm.of (SpO.nil (HI7.out.Cc hgl hbl hqc ⟨t.af[q].name,t.af[q].ty,s,t.af[q].refs,t.af[q].A,t.af[q].cap,t.af[q].own,t.af[q].joint,t.af[q].eF⟩ (j:= 2) omA rfl rfl) (HQ7.out.far (fun e=>HI7.out.col.bT HQ7.out nU b2 rfl e.symm) _)) (jG vA vc) hgl rfl rfl spA hnm eS (HST.out _ q ⟨t.af[q].name,t.af[q].ty,s,t.af[q].refs,t.af[q].A,t.af[q].cap,t.af[q].own,t.af[q].joint,t.af[q].eF⟩ ⟨⟨HSX.out.name,hss,HSX.out.refs,HSX.out.own⟩,.inl ⟨hr',t.af[q],by rw[HTR.out];exact lgm hqc,rfl,rfl⟩⟩)
 clear n0'
 refine fV (P:=fun X=>Code.wp _ _ _ ⟨X,_⟩ _) 290 0 (.pointer (some ⟨g,0,none⟩)) (.pointer (some ⟨w.heap.size,0,none⟩)) v4 (.pointer (some ⟨b1,r*4,none⟩)) (.pointer (some ⟨b2,q*7,none⟩)) (.int .i64 r3) eK ?_
 clear hsz g0 g3 g4 g5 g6 g79
 intro T hsz h0 h3 h4 h5 h6 h79
 obtain⟨_,g0⟩:=Array.getElem_of_getElem? h0
 obtain⟨_,g3⟩:=Array.getElem_of_getElem? h3
 obtain⟨_,g4⟩:=Array.getElem_of_getElem? h4
 obtain⟨_,g5⟩:=Array.getElem_of_getElem? h5
 obtain⟨_,g6⟩:=Array.getElem_of_getElem? h6
 obtain⟨_,g79⟩:=Array.getElem_of_getElem? h79
 clear h0 h3 h4 h5 h6 h79
 go_wp2_with fail
 refine wp_cond_split (t:=(r3:Int) == 6) eL (fun t0' =>?_) (fun n0' =>?_)
 ·clear t0'
  go_wp2_with fail
  (with_reducible refine(aA g b 5 _ (HI.out.tape.alloc _) omA omA).mono ?_)
  rintro e w7 ⟨r4,rfl,hr4,hk7,hg7⟩
  have zm:r4<5:=by rcases hr4 with h|h<;>omega
  have HI7:=qh ((HI.out.alloc _).next hg7 hk7 hgl omA)
  have HQ7:=qh ((HQ.out.alloc _).grown hg7 inA)
  have hS7:=Blk.grown (Blk.new _ _ _) hg7 inA
  have hz7:=hS7.lt
  have hft:=HI7.out.tH
  have hfc:=HI7.out.wu
  clear hr4 hk7 hg7
  obtain⟨s,hs,hss⟩:∃s:ByteArray,w7.cell? ⟨W6.heap.size,r4,none⟩=some (.string s)∧s.size≤1000000:=by
   rw[hS7.cell]
   rcases(show r4=0∨r4=1∨r4=2∨r4=3∨r4=4 by omega) with rfl|rfl|rfl|rfl|rfl
   all_goals exact⟨_,rfl,by decide⟩
  clear hS7
  have cC7:=HI7.out.pK hqc (j:= 3) rfl
  (try simp only[Nat.add_zero]at cC7)
  go_wp2_with fail
  refine hK _ _ eR eM eN ?_
  exact jm.of (SpO.nil (HI7.out.Cc hgl hbl hqc ⟨t.af[q].name,t.af[q].ty,t.af[q].ns,s,t.af[q].A,t.af[q].cap,t.af[q].own,t.af[q].joint,t.af[q].eF⟩ (j:= 3) omA rfl rfl) (HQ7.out.far (fun e=>HI7.out.col.bT HQ7.out nU b2 rfl e.symm) _)) (jG vA vc) hgl rfl rfl spA hnm eS (HST.out _ q ⟨t.af[q].name,t.af[q].ty,t.af[q].ns,s,t.af[q].A,t.af[q].cap,t.af[q].own,t.af[q].joint,t.af[q].eF⟩ ⟨⟨HSX.out.name,HSX.out.ns,hss,HSX.out.own⟩,.inl ⟨hr',t.af[q],by rw[HTR.out];exact lgm hqc,rfl,rfl⟩⟩)
 clear n0'
 refine fV (P:=fun X=>Code.wp _ _ _ ⟨X,_⟩ _) 290 0 (.pointer (some ⟨g,0,none⟩)) (.pointer (some ⟨w.heap.size,0,none⟩)) v4 (.pointer (some ⟨b1,r*4,none⟩)) (.pointer (some ⟨b2,q*7,none⟩)) (.int .i64 r3) eK ?_
 clear hsz g0 g3 g4 g5 g6 g79
 intro T hsz h0 h3 h4 h5 h6 h79
 obtain⟨_,g0⟩:=Array.getElem_of_getElem? h0
 obtain⟨_,g3⟩:=Array.getElem_of_getElem? h3
 obtain⟨_,g4⟩:=Array.getElem_of_getElem? h4
 obtain⟨_,g5⟩:=Array.getElem_of_getElem? h5
 obtain⟨_,g6⟩:=Array.getElem_of_getElem? h6
 obtain⟨_,g79⟩:=Array.getElem_of_getElem? h79
 clear h0 h3 h4 h5 h6 h79
 go_wp2_with fail
 refine wp_cond_split (t:=(r3:Int) == 7) eL (fun t0' =>?_) (fun n0' =>?_)
 ·clear t0'
  go_wp2_with fail
  (with_reducible refine(aA g b 4 _ HI.out.tape omA omA).mono ?_)
  rintro e w7 ⟨r4,rfl,hr4,hk7,hg7⟩
  have zm:r4<4:=by rcases hr4 with h|h<;>omega
  have HI7:=qh (HI.out.next hg7 hk7 hgl omA)
  have HQ7:=qh (HQ.out.grown hg7 inA)
  have hft:=HI7.out.tH
  have hfc:=HI7.out.wu
  clear hr4 hk7 hg7
  have cC7:=HI7.out.pK hqc (j:= 4) rfl
  (try simp only[Nat.add_zero]at cC7)
  have Vh:=HI7.out.col.lt b2 rfl
  have Ws:=HI7.out.grown.size
  have WE:=HQ7.out.lt
  go_wp2_with fail
  refine hK _ _ eR eM eN ?_
  exact jm.of (SpO.nil ((HI7.out.Cc hgl hbl hqc ⟨t.af[q].name,t.af[q].ty,t.af[q].ns,t.af[q].refs,some ⟨w7.heap.size,0,none⟩,1,[(r4:Int)-1],t.af[q].joint,t.af[q].eF⟩ (j:= 4) omA rfl rfl).alloc _) ((HQ7.out.far (fun e=>HI7.out.col.bT HQ7.out nU b2 rfl e.symm) _).alloc _)) (jG vA vc) hgl rfl rfl spA hnm eS (HST.out _ q ⟨t.af[q].name,t.af[q].ty,t.af[q].ns,t.af[q].refs,some ⟨w7.heap.size,0,none⟩,1,[(r4:Int)-1],t.af[q].joint,t.af[q].eF⟩ ⟨⟨HSX.out.name,HSX.out.ns,HSX.out.refs,by simp⟩,.inr ⟨Blk.one (enc:=intCells) (x:=(r4:Int)-1) (Blk.new' spA) spA,fun a ha=>by injection ha with ha;subst ha;simp;omega⟩⟩)
 clear n0'
 refine fV (P:=fun X=>Code.wp _ _ _ ⟨X,_⟩ _) 290 0 (.pointer (some ⟨g,0,none⟩)) (.pointer (some ⟨w.heap.size,0,none⟩)) v4 (.pointer (some ⟨b1,r*4,none⟩)) (.pointer (some ⟨b2,q*7,none⟩)) (.int .i64 r3) eK ?_
 clear hsz g0 g3 g4 g5 g6 g79
 intro T hsz h0 h3 h4 h5 h6 h79
 obtain⟨_,g0⟩:=Array.getElem_of_getElem? h0
 obtain⟨_,g3⟩:=Array.getElem_of_getElem? h3
 obtain⟨_,g4⟩:=Array.getElem_of_getElem? h4
 obtain⟨_,g5⟩:=Array.getElem_of_getElem? h5
 obtain⟨_,g6⟩:=Array.getElem_of_getElem? h6
 obtain⟨_,g79⟩:=Array.getElem_of_getElem? h79
 clear h0 h3 h4 h5 h6 h79
 go_wp2_with fail
 refine wp_cond_split (t:=(r3:Int) == 8) eL (fun t0' =>?_) (fun n0' =>?_)
 ·clear t0'
  go_wp2_with fail
  (with_reducible refine(aA g b 3 _ HI.out.tape omA omA).mono ?_)
  rintro e w7 ⟨r4,rfl,hr4,hk7,hg7⟩
  have zm:r4<3:=by rcases hr4 with h|h<;>omega
  have HI7:=qh (HI.out.next hg7 hk7 hgl omA)
  have HQ7:=qh (HQ.out.grown hg7 inA)
  have hft:=HI7.out.tH
  have hfc:=HI7.out.wu
  clear hr4 hk7 hg7
  clear hft hfc
  go_wp2_with fail
  (with_reducible refine(aA g b 3 _ HI7.out.tape omA omA).mono ?_)
  rintro e w8 ⟨r5,rfl,hr5,hk8,hg8⟩
  have HI8:=qh (HI7.out.next hg8 hk8 hgl omA)
  have HQ8:=qh (HQ7.out.grown hg8 inA)
  have hfc:=HI8.out.wu
  have cC7:=HI8.out.pK hqc (j:= 4) rfl
  have Vh:=HI8.out.col.lt b2 rfl
  have Wq:=HI8.out.grown.size
  have UD:=HQ8.out.lt
  clear hr5 hk8 hg8
  go_wp2_with fail
  refine hK _ _ eR eM eN ?_
  exact jm.of (SpO.nil ((HI8.out.Cc hgl hbl hqc ⟨t.af[q].name,t.af[q].ty,t.af[q].ns,t.af[q].refs,some ⟨w8.heap.size,0,none⟩,2,[(r4:Int),(r5:Int)],t.af[q].joint,t.af[q].eF⟩ (j:= 4) omA rfl rfl).alloc _) ((HQ8.out.far (fun e=>HI8.out.col.bT HQ8.out nU b2 rfl e.symm) _).alloc _)) (jG vA vc) hgl rfl rfl spA hnm eS (HST.out _ q ⟨t.af[q].name,t.af[q].ty,t.af[q].ns,t.af[q].refs,some ⟨w8.heap.size,0,none⟩,2,[(r4:Int),(r5:Int)],t.af[q].joint,t.af[q].eF⟩ ⟨⟨HSX.out.name,HSX.out.ns,HSX.out.refs,by simp⟩,.inr ⟨Blk.list bn (l:= [(r4:Int),(r5:Int)]) (Blk.new' spA) spA,fun a ha=>by injection ha with ha;subst ha;simp;omega⟩⟩)
 clear n0'
 refine fV (P:=fun X=>Code.wp _ _ _ ⟨X,_⟩ _) 290 0 (.pointer (some ⟨g,0,none⟩)) (.pointer (some ⟨w.heap.size,0,none⟩)) v4 (.pointer (some ⟨b1,r*4,none⟩)) (.pointer (some ⟨b2,q*7,none⟩)) (.int .i64 r3) eK ?_
 clear hsz g0 g3 g4 g5 g6 g79
 intro T hsz h0 h3 h4 h5 h6 h79
 obtain⟨_,g0⟩:=Array.getElem_of_getElem? h0
 obtain⟨_,g3⟩:=Array.getElem_of_getElem? h3
 obtain⟨_,g4⟩:=Array.getElem_of_getElem? h4
 obtain⟨_,g5⟩:=Array.getElem_of_getElem? h5
 obtain⟨_,g6⟩:=Array.getElem_of_getElem? h6
 obtain⟨_,g79⟩:=Array.getElem_of_getElem? h79
 clear h0 h3 h4 h5 h6 h79
 go_wp2_with fail
 refine wp_cond_split (t:=(r3:Int) == 9) eL (fun t0' =>?_) (fun n0' =>?_)
 ·clear t0'
  go_wp2_with fail
  (with_reducible refine(aA g b 4 _ HI.out.tape omA omA).mono ?_)
  rintro e w7 ⟨r4,rfl,hr4,hk7,hg7⟩
  have zm:r4<4:=by rcases hr4 with h|h<;>omega
  have HI7:=qh (HI.out.next hg7 hk7 hgl omA)
  have HQ7:=qh (HQ.out.grown hg7 inA)
  have hft:=HI7.out.tH
  have hfc:=HI7.out.wu
  clear hr4 hk7 hg7
  have cC7:=HI7.out.pK hqc (j:= 5) rfl
  (try simp only[Nat.add_zero]at cC7)
  go_wp2_with fail
  refine hK _ _ eR eM eN ?_
  exact jm.of (SpO.nil (HI7.out.Cc hgl hbl hqc ⟨t.af[q].name,t.af[q].ty,t.af[q].ns,t.af[q].refs,t.af[q].A,t.af[q].cap,t.af[q].own,(r4:Int)-1,t.af[q].eF⟩ (j:= 5) omA rfl rfl) (HQ7.out.far (fun e=>HI7.out.col.bT HQ7.out nU b2 rfl e.symm) _)) (jG vA vc) hgl rfl rfl spA hnm eS (HST.out _ q ⟨t.af[q].name,t.af[q].ty,t.af[q].ns,t.af[q].refs,t.af[q].A,t.af[q].cap,t.af[q].own,(r4:Int)-1,t.af[q].eF⟩ ⟨⟨HSX.out.name,HSX.out.ns,HSX.out.refs,HSX.out.own⟩,.inl ⟨hr',t.af[q],by rw[HTR.out];exact lgm hqc,rfl,rfl⟩⟩)
 clear n0'
 refine fV (P:=fun X=>Code.wp _ _ _ ⟨X,_⟩ _) 290 0 (.pointer (some ⟨g,0,none⟩)) (.pointer (some ⟨w.heap.size,0,none⟩)) v4 (.pointer (some ⟨b1,r*4,none⟩)) (.pointer (some ⟨b2,q*7,none⟩)) (.int .i64 r3) eK ?_
 clear hsz g0 g3 g4 g5 g6 g79
 intro T hsz h0 h3 h4 h5 h6 h79
 obtain⟨_,g0⟩:=Array.getElem_of_getElem? h0
 obtain⟨_,g3⟩:=Array.getElem_of_getElem? h3
 obtain⟨_,g4⟩:=Array.getElem_of_getElem? h4
 obtain⟨_,g5⟩:=Array.getElem_of_getElem? h5
 obtain⟨_,g6⟩:=Array.getElem_of_getElem? h6
 obtain⟨_,g79⟩:=Array.getElem_of_getElem? h79
 clear h0 h3 h4 h5 h6 h79
 go_wp2_with fail
 refine wp_cond_split (t:=(r3:Int) == 10) eL (fun t0' =>?_) (fun n0' =>?_)
 ·clear t0'
  go_wp2_with fail
  (with_reducible refine(aA g b 4 _ (HI.out.tape.alloc _) omA omA).mono ?_)
  rintro e w7 ⟨r4,rfl,hr4,hk7,hg7⟩
  have zm:r4<4:=by rcases hr4 with h|h<;>omega
  have HI7:=qh ((HI.out.alloc _).next hg7 hk7 hgl omA)
  have HQ7:=qh ((HQ.out.alloc _).grown hg7 inA)
  have hS7:=Blk.grown (Blk.new _ _ _) hg7 inA
  have hz7:=hS7.lt
  have hft:=HI7.out.tH
  have hfc:=HI7.out.wu
  clear hr4 hk7 hg7
  obtain⟨z,hs⟩:∃z:Int,w7.cell? ⟨W6.heap.size,r4,none⟩=some (.int .i64 z):=by
   rw[hS7.cell]
   rcases(show r4=0∨r4=1∨r4=2∨r4=3 by omega) with rfl|rfl|rfl|rfl
   all_goals exact⟨_,rfl⟩
  clear hS7
  have cC7:=HI7.out.pK hqc (j:= 6) rfl
  (try simp only[Nat.add_zero]at cC7)
  go_wp2_with fail
  refine hK _ _ eR eM eN ?_
  exact jm.of (SpO.nil (HI7.out.Cc hgl hbl hqc ⟨t.af[q].name,t.af[q].ty,t.af[q].ns,t.af[q].refs,t.af[q].A,t.af[q].cap,t.af[q].own,t.af[q].joint,z⟩ (j:= 6) omA rfl rfl) (HQ7.out.far (fun e=>HI7.out.col.bT HQ7.out nU b2 rfl e.symm) _)) (jG vA vc) hgl rfl rfl spA hnm eS (HST.out _ q ⟨t.af[q].name,t.af[q].ty,t.af[q].ns,t.af[q].refs,t.af[q].A,t.af[q].cap,t.af[q].own,t.af[q].joint,z⟩ ⟨⟨HSX.out.name,HSX.out.ns,HSX.out.refs,HSX.out.own⟩,.inl ⟨hr',t.af[q],by rw[HTR.out];exact lgm hqc,rfl,rfl⟩⟩)
 clear n0'
 refine fV (P:=fun X=>Code.wp _ _ _ ⟨X,_⟩ _) 290 0 (.pointer (some ⟨g,0,none⟩)) (.pointer (some ⟨w.heap.size,0,none⟩)) v4 (.pointer (some ⟨b1,r*4,none⟩)) (.pointer (some ⟨b2,q*7,none⟩)) (.int .i64 r3) eK ?_
 clear hsz g0 g3 g4 g5 g6 g79
 intro T hsz h0 h3 h4 h5 h6 h79
 obtain⟨_,g0⟩:=Array.getElem_of_getElem? h0
 obtain⟨_,g3⟩:=Array.getElem_of_getElem? h3
 obtain⟨_,g4⟩:=Array.getElem_of_getElem? h4
 obtain⟨_,g5⟩:=Array.getElem_of_getElem? h5
 obtain⟨_,g6⟩:=Array.getElem_of_getElem? h6
 obtain⟨_,g79⟩:=Array.getElem_of_getElem? h79
 clear h0 h3 h4 h5 h6 h79
 go_wp2_with fail
 refine wp_cond_split (t:=(r3:Int) == 11) eL (fun t0' =>?_) (fun n0' =>?_)
 ·clear t0'
  have c1:=HI.out.nO hr' (j:= 1) rfl
  have hft:=HI.out.tH
  go_wp2_with fail
  refine hK _ _ eR eM eN ?_
  exact⟨b2,cC,⟨t.name,none,0,[],t.erase,t.eD⟩,t.af,xC vA vc,SpO.nil (HI.out.Hg hr' hgl hbl _ (j:= 1) omA rfl rfl) (HQ.out.far (fun e=>HI.out.tab.bT HQ.out qC b1 rfl e.symm) _),jG vA vc,hnm,[],Nat.zero_le _,ah.nil,rfl,Nat.zero_le _,fun a ha=>(by cases ha),fun x hx=>(by cases hx)⟩
 clear n0'
 refine fV (P:=fun X=>Code.wp _ _ _ ⟨X,_⟩ _) 290 0 (.pointer (some ⟨g,0,none⟩)) (.pointer (some ⟨w.heap.size,0,none⟩)) v4 (.pointer (some ⟨b1,r*4,none⟩)) (.pointer (some ⟨b2,q*7,none⟩)) (.int .i64 r3) eK ?_
 clear hsz g0 g3 g4 g5 g6 g79
 intro T hsz h0 h3 h4 h5 h6 h79
 obtain⟨_,g0⟩:=Array.getElem_of_getElem? h0
 obtain⟨_,g3⟩:=Array.getElem_of_getElem? h3
 obtain⟨_,g4⟩:=Array.getElem_of_getElem? h4
 obtain⟨_,g5⟩:=Array.getElem_of_getElem? h5
 obtain⟨_,g6⟩:=Array.getElem_of_getElem? h6
 obtain⟨_,g79⟩:=Array.getElem_of_getElem? h79
 clear h0 h3 h4 h5 h6 h79
 go_wp2_with fail
 refine wp_cond_split (t:=(r3:Int) == 12) eL (fun t0' =>?_) (fun n0' =>?_)
 ·clear t0'
  go_upto_block 1 with (fail)
  refine El _ w W6 g b b1 b2 cT cC r n vA vc ts t _ ?_ eR eM v4 eN (by simp[hsz,g5]) hgl hbl hr' HTR.out HN.out hcl HSC.out (SpO.nil HI.out HQ.out) ?_
  ·intro c a d v u h
   exact hPP c _ _ _ u h
  ·intro X u h1 h2 h3 h4
   go_wp2_with fail
   exact hK X u h1 h2 h3 h4
 clear n0'
 refine fV (P:=fun X=>Code.wp _ _ _ ⟨X,_⟩ _) 290 0 (.pointer (some ⟨g,0,none⟩)) (.pointer (some ⟨w.heap.size,0,none⟩)) v4 (.pointer (some ⟨b1,r*4,none⟩)) (.pointer (some ⟨b2,q*7,none⟩)) (.int .i64 r3) eK ?_
 clear hsz g0 g3 g4 g5 g6 g79
 intro T hsz h0 h3 h4 h5 h6 h79
 obtain⟨_,g0⟩:=Array.getElem_of_getElem? h0
 obtain⟨_,g3⟩:=Array.getElem_of_getElem? h3
 obtain⟨_,g4⟩:=Array.getElem_of_getElem? h4
 obtain⟨_,g5⟩:=Array.getElem_of_getElem? h5
 obtain⟨_,g6⟩:=Array.getElem_of_getElem? h6
 obtain⟨_,g79⟩:=Array.getElem_of_getElem? h79
 clear h0 h3 h4 h5 h6 h79
 go_wp2_with fail
 refine wp_cond_split (t:=(r3:Int) == 13) eL (fun t0' =>?_) (fun n0' =>?_)
 ·clear t0'
  refine He _ w W6 g b b1 b2 cT cC r vA vc ts _ _ _ eR (by simp[hsz,g0]) eM hgl hbl (SpO.nil HI.out HQ.out) ?_
  intro X u a x hXs hX0 hX3 hX4 hO
  go_wp2_with fail
  refine hK _ _ hXs (hX3.trans eM) (hX4.trans eN) ?_
  exact jm.of hO ⟨by simp,by simp,by simp,by simp,by simp,by simp,by simp⟩ hgl rfl rfl rfl hnm hc6 (HKP.out _)
 clear n0'
 refine fV (P:=fun X=>Code.wp _ _ _ ⟨X,_⟩ _) 290 0 (.pointer (some ⟨g,0,none⟩)) (.pointer (some ⟨w.heap.size,0,none⟩)) v4 (.pointer (some ⟨b1,r*4,none⟩)) (.pointer (some ⟨b2,q*7,none⟩)) (.int .i64 r3) eK ?_
 clear hsz g0 g3 g4 g5 g6 g79
 intro T hsz h0 h3 h4 h5 h6 h79
 obtain⟨_,g0⟩:=Array.getElem_of_getElem? h0
 obtain⟨_,g3⟩:=Array.getElem_of_getElem? h3
 obtain⟨_,g4⟩:=Array.getElem_of_getElem? h4
 obtain⟨_,g5⟩:=Array.getElem_of_getElem? h5
 obtain⟨_,g6⟩:=Array.getElem_of_getElem? h6
 obtain⟨_,g79⟩:=Array.getElem_of_getElem? h79
 clear h0 h3 h4 h5 h6 h79
 go_wp2_with fail
 refine wp_cond_split (t:=(r3:Int) == 14) eL (fun t0' =>?_) (fun n0' =>?_)
 ·clear t0'
  refine Ha _ w W6 g b b1 b2 cT cC r vA vc ts _ _ _ eR (by simp[hsz,g0]) eM hgl hbl (SpO.nil HI.out HQ.out) ?_
  intro X u a x hXs hX0 hX3 hX4 hO
  go_wp2_with fail
  refine hK _ _ hXs (hX3.trans eM) (hX4.trans eN) ?_
  exact jm.of hO ⟨by simp,by simp,by simp,by simp,by simp,by simp,by simp⟩ hgl rfl rfl rfl hnm hc6 (HKP.out _)
 clear n0'
 go_upto_region 14 with (fail)
 refine Hd _ w W6 g b b1 b2 cT cC r vA vc ts _ _ _ eR (by simp[hsz,g0]) eM hgl hbl (SpO.nil HI.out HQ.out) ?_
 intro X1 u1 a1 x1 hs1 hX0 hX3 hX4 hO1
 replace hX0:=hX0.trans (show _=some (.pointer (some ⟨g,0,none⟩)) by simp[hsz,g0])
 replace hX3:=hX3.trans (show _=some (.pointer (some ⟨w.heap.size,0,none⟩)) by simp[hsz,g3])
 replace hX4:=hX4.trans (show _=some v4 by simp[hsz,g4])
 clear hsz g0 g3 g4 g5 g6 g79
 go_upto_region 15 with (fail)
 refine Hf X1 w u1 g b b1 b2 cT cC r vA vc ts _ _ a1 x1 _ hs1 hX0 hX3 hgl hbl hO1 ?_
 intro X2 u2 a2 x2 hs2 hY0 hY3 hY4 hO2
 replace hY0:=hY0.trans hX0
 replace hY3:=hY3.trans hX3
 replace hY4:=hY4.trans hX4
 clear hs1 hX0 hX3 hX4 hO1
 obtain⟨_,g0⟩:=Array.getElem_of_getElem? hY0
 obtain⟨_,g3⟩:=Array.getElem_of_getElem? hY3
 obtain⟨_,g4⟩:=Array.getElem_of_getElem? hY4
 clear hY0 hY3 hY4
 have HO2:=qh hO2
 clear hO2
 go_wp2_with fail
 (with_reducible refine(aA g b 2 _ HO2.out.mem.tape omA omA).mono ?_)
 rintro e w8 ⟨z1,rfl,hz1,hk8,hg8⟩
 have HO8:=qh (HO2.out.call hgl hg8 hk8)
 clear hz1 hk8 hg8
 go_wp2_with fail
 (with_reducible refine(aA g b 2 _ HO8.out.mem.tape omA omA).mono ?_)
 rintro e w9 ⟨z2,rfl,hz2,hk9,hg9⟩
 have hO9:=HO8.out.call hgl hg9 hk9
 have HO9:=qh hO9
 have hc4:=hO9.mem.cat.cell 4
 have hf4:=hO9.mem.cat.frozen 4
 have hz9:=hO9.res.lt
 have We:w.heap.size<w9.heap.size:=by omega
 simp only[gE3]at hc4
 clear hz2 hk9 hg9 hO9
 go_upto_region 17 with (fail)
 refine ai (P:=fun u=>Code.wp _ _ _ _ u) (R:=fun u =>∃cA,SpO w u g b b1 b2 cT cC r ts ⟨t.name,some ⟨b2,0,none⟩,cC,t.af,t.erase,t.eD⟩ t.af ⟨vA,vc,none,0,[],none,0,[],cA,1,[⟨⟨#[104]⟩,⟨#[116,48]⟩,z1,z2⟩],a1,1,[x1],none,0,[],a2,1,[x2]⟩) ?_ ?_
 ·refine⟨some ⟨w9.heap.size,0,none⟩,?_⟩
  rw[←World.setCell_alloc_past (hn:=by omega)]
  have hB:=Blk.new w9 119 (Cch.cells ⟨⟨#[104]⟩,⟨#[116,48]⟩,z1,z2⟩).toArray
  have hA:=HO9.out.alloc (.cells (Cch.cells ⟨⟨#[104]⟩,⟨#[116,48]⟩,z1,z2⟩).toArray 119)
  exact hA.put hgl hbl spA ⟨hA.inw.idx,hA.inw.skt,Blk.one (enc:=Cch.cells) hB hB.lt,hA.inw.rel,hA.inw.str,hA.inw.bak⟩ ⟨hA.up.idx,hA.up.skt,(fun a ha=>by injection ha with ha;subst ha;show w.heap.size+2≤w9.heap.size;omega),hA.up.rel,hA.up.str,hA.up.bak⟩
   ⟨hA.bZ.idx,hA.bZ.skt,spA,hA.bZ.rel,hA.bZ.str,hA.bZ.bak,(fun y hy=>by
   simp only[Oth.names,List.map_cons,List.map_nil,List.nil_append,List.append_nil,List.cons_append,List.mem_cons,List.not_mem_nil,or_false]at hy
   rcases hy with rfl|rfl|rfl
   ·show 1≤1000000;omega
   ·exact hA.bZ.names _ eV
   ·exact hA.bZ.names _ eV),hA.bZ.Ia,hA.bZ.G9,(fun y hy=>by rw[List.mem_singleton.1 hy];show 2≤1000000;omega),hA.bZ.Hm⟩
 clear HO9 HO8 HO2 hc4 hf4 hz9
 rintro U ⟨cA,hO⟩
 have HO:=qh hO
 clear hO
 go_wp2_with fail
 (with_reducible refine(aA g b 2 _ (HO.out.mem.tape.alloc _) omA omA).mono ?_)
 rintro e w10 ⟨z3,rfl,hz3,hk10,Bo⟩
 have Us:z3<2:=by rcases hz3 with h|h<;>omega
 have LZ:=(HO.out.alloc _).call hgl Bo hk10
 have VP:=qh LZ
 have hgU:g<U.heap.size:=by have:=HO.out.mem.grown.size;omega
 have NV:=Blk.grown (Blk.new _ _ _) Bo inA
 have P8:=LZ.res.lt
 have V7:w.heap.size<w10.heap.size:=by omega
 have hzS:=NV.lt
 obtain⟨s,hs⟩:∃s:ByteArray,w10.cell? ⟨U.heap.size,z3,none⟩=some (.string s):=by
  rw[NV.cell]
  rcases(show z3=0∨z3=1 by omega) with rfl|rfl
  all_goals exact⟨_,rfl⟩
 have hss:s.size≤1000000:=by
  rw[NV.cell]at hs
  rcases(show z3=0∨z3=1 by omega) with rfl|rfl
  all_goals(simp at hs;subst hs;show 2≤1000000;omega)
 have Vd:=LZ.mem.cat.cell 6
 have hf6:=LZ.mem.cat.frozen 6
 simp only[gE3]at Vd
 clear hz3 hk10 Bo LZ NV
 go_wp2_with fail
 refine hK _ _ (by simp[hs2]) (by simp[hs2,g3]) (by simp[hs2,g4]) ?_
 have hB:=Blk.new w10 121 (Stm.cells ⟨⟨#[109]⟩,s⟩).toArray
 have hA:=VP.out.alloc (.cells (Stm.cells ⟨⟨#[109]⟩,s⟩).toArray 121)
 have hE:SpO w ((w10.alloc (.cells (Stm.cells ⟨⟨#[109]⟩,s⟩).toArray 121)).setCell ⟨w.heap.size,6,none⟩ (.slice (some ⟨w10.heap.size,0,none⟩) 1 1)) g b b1 b2 cT cC r ts ⟨t.name,some ⟨b2,0,none⟩,cC,t.af,t.erase,t.eD⟩ t.af ⟨vA,vc,none,0,[],none,0,[],cA,1,[⟨⟨#[104]⟩,⟨#[116,48]⟩,z1,z2⟩],a1,1,[x1],some ⟨w10.heap.size,0,none⟩,1,[⟨⟨#[109]⟩,s⟩],a2,1,[x2]⟩:=
  hA.put hgl hbl spA ⟨hA.inw.idx,hA.inw.skt,hA.inw.cch,hA.inw.rel,Blk.one (enc:=Stm.cells) hB hB.lt,hA.inw.bak⟩ ⟨hA.up.idx,hA.up.skt,hA.up.cch,hA.up.rel,(fun a ha=>by injection ha with ha;subst ha;show w.heap.size+2≤w10.heap.size;omega),hA.up.bak⟩
   ⟨hA.bZ.idx,hA.bZ.skt,hA.bZ.cch,hA.bZ.rel,spA,hA.bZ.bak,(fun y hy=>by
   simp only[Oth.names,List.map_cons,List.map_nil,List.nil_append,List.append_nil,List.cons_append,List.mem_cons,List.not_mem_nil,or_false]at hy
   rcases hy with rfl|rfl|rfl|rfl
   ·exact hA.bZ.names _ eV
   ·exact hA.bZ.names _ eV
   ·show 1≤1000000;omega
   ·exact hA.bZ.names _ eV),hA.bZ.Ia,hA.bZ.G9,hA.bZ.II,hA.bZ.Hm⟩
 rw[World.setCell_alloc_past (hn:=by omega)]at hE
 exact jm.of hE ⟨by simp,by simp,by simp,by simp,by simp,by simp,by simp⟩ hgl rfl rfl rfl hnm hc6 (HKP.out _)
theorem wK(g b:Nat)(A:Option Addr)(c m:Nat)(ts:List Tab)(w:World)(hk:aO w g b)(ht:aJ w w.heap.size A ts)(hne:nS g A ts)(hm:ts.length=m)(hs:aI ts)(hok:aV ts)(h0:0<ts.length):
 Calls Tryz.prog 13 #[.pointer (some ⟨g,0,none⟩),.agg #[.slice A m c,.slice none 0 0,.slice none 0 0,.slice none 0 0,.slice none 0 0,.slice none 0 0,.slice none 0 0,.slice none 0 0]] w (GH w g b):=by
 subst hm
 obtain⟨it,hit,CP,CO,CL⟩:=info_parts Gs
 obtain⟨ic,hic,sV,sU,sS⟩:=info_parts A7
 obtain⟨iv,hiv,sN,sM,sK⟩:=info_parts KR
 have hgl:=hk.ltg
 have hbl:=hk.lt
 have h8:=hok.len
 have HK:=qh hk
 have HT:=qh ht
 have HT1:=qh ht.1
 have HNE:=qh hne
 have HS:=qh hs
 have HOK:=qh hok
 clear hk ht hne hs hok
 go_enter Tryz.func13,Tryz.ntmps13
 go_upto_region 1 with (fail)
 refine ai (P:=fun u=>Code.wp _ _ _ _ u) (R:=fun u=>Blk u w.heap.size 39 #[.slice A ts.length c,.slice none 0 0,.slice none 0 0,.slice none 0 0,.slice none 0 0,.slice none 0 0,.slice none 0 0,.slice none 0 0]∧Blk u (w.heap.size+1) 39 #[.slice none 0 0,.slice none 0 0,.slice none 0 0,.slice none 0 0,.slice none 0 0,.slice none 0 0,.slice none 0 0,.slice none 0 0]∧Below w.heap.size w u) ⟨?_,?_,?_⟩ ?_
 ·exact(Blk.new _ _ _).alloc _
 ·exact Blk.new' spA
 ·exact ak
 rintro W ⟨hC,hQ,hbW⟩
 have HC:=qh hC
 have HQ:=qh hQ
 obtain⟨p0,_⟩:=Cat.blk hC
 have hzC:=hC.lt
 have hzQ:=hQ.lt
 clear hC hQ
 go_upto_region 2 with (at_builtin;go_must (refine aK _ rfl (.tmp 7) (.tmp 9) 30 rfl 77 it _ Tab.cells 4 56 Tryz.underlying30 hit CP CO CL rfl omA gy ny w.heap.size (.slice (some ⟨W.heap.size,0,none⟩) 0 0) [] rfl (ax.empty (Blk.new' rfl) omA) _ _ _ ts rfl rfl (HT1.out.next ak) smA mxA smA ?_);intro v' w1 hown' hg' hat';have hbel:Below W.heap.size W w1:=Below.grown ak hg' spA (bR nlr);rw[List.nil_append]at hown';obtain⟨b1,cT,rfl,hbb⟩:=hat'.elim (fun h=>hown'.gW h) (fun h=>hown'.gW h);have HOWN':=qh hown';have f1:∀j,w1.frozen? ⟨w.heap.size,j,none⟩=false:=(fun j=>(HC.out.below hbel hzC).frozen j);have c1:=(HC.out.below hbel hzC).cell 0;simp only[gE3]at c1;clear hown' hg' hat' p0)
 refine ai (P:=fun u=>Code.wp _ _ _ _ u) (R:=fun u=>ax u w.heap.size 77 Tab.cells 4 (.slice (some ⟨b1,0,none⟩) ts.length cT) ts∧Blk u w.heap.size 39 #[.slice (some ⟨b1,0,none⟩) ts.length cT,.slice none 0 0,.slice none 0 0,.slice none 0 0,.slice none 0 0,.slice none 0 0,.slice none 0 0,.slice none 0 0]∧Blk u (w.heap.size+1) 39 #[.slice none 0 0,.slice none 0 0,.slice none 0 0,.slice none 0 0,.slice none 0 0,.slice none 0 0,.slice none 0 0,.slice none 0 0]∧Below w.heap.size w u) ⟨?_,?_,?_,?_⟩ ?_
 ·have hC1:=HC.out.below hbel hzC
  exact HOWN'.out.far (fun q hq e=>HOWN'.out.bT hC1 qC q hq e) _
 ·exact((HC.out.below hbel hzC).bM _ _).eq spA
 ·exact(HQ.out.below hbel hzQ).far e9 _
 ·exact(ae hbW hbel hbW.size).setCell spA _
 clear HOWN' f1 c1 HC HQ hbel hzC hzQ
 rintro W1 ⟨hT1,hC1,hQ1,hbW1⟩
 have HO1:=qh hT1
 have HC1:=qh hC1
 have HQ1:=qh hQ1
 have p1:=hC1.cell 1
 simp only[gE3]at p1
 have hzC:=hC1.lt
 have hzQ:=hQ1.lt
 have hzO:=hT1.lt b1 rfl
 clear hT1 hC1 hQ1
 go_upto_region 3 with (at_builtin;go_must (refine aK _ rfl (.tmp 12) (.tmp 14) 31 rfl 108 iv _ Ag 9 160 Tryz.underlying31 hiv sN sM sK rfl omA Pf Pb w.heap.size (.slice (some ⟨W1.heap.size,0,none⟩) 0 0) [] rfl (ax.empty (Blk.new' rfl) omA) _ _ _ [] rfl rfl ah.nil spA (by simp[maxLen]) smA ?_);intro v' w2 hown' hg' hat';have hbel:Below W1.heap.size W1 w2:=Below.grown ak hg' spA (bR nlr);obtain⟨vA,vc,hv,_⟩:=hown'.form;simp only[List.append_nil,List.length_nil]at hv;subst hv;have f1:∀j,w2.frozen? ⟨w.heap.size,j,none⟩=false:=(fun j=>(HC1.out.below hbel hzC).frozen j);have c1:=(HC1.out.below hbel hzC).cell 1;simp only[gE3]at c1;clear hown' hg' hat' p1)
 refine ai (P:=fun u=>Code.wp _ _ _ _ u) (R:=fun u=>ax u w.heap.size 77 Tab.cells 4 (.slice (some ⟨b1,0,none⟩) ts.length cT) ts∧Blk u w.heap.size 39 #[.slice (some ⟨b1,0,none⟩) ts.length cT,.slice vA 0 vc,.slice none 0 0,.slice none 0 0,.slice none 0 0,.slice none 0 0,.slice none 0 0,.slice none 0 0]∧Blk u (w.heap.size+1) 39 #[.slice none 0 0,.slice none 0 0,.slice none 0 0,.slice none 0 0,.slice none 0 0,.slice none 0 0,.slice none 0 0,.slice none 0 0]∧Below w.heap.size w u) ⟨?_,?_,?_,?_⟩ ?_
 ·have hC1:=HC1.out.below hbel hzC
  have hO1:=HO1.out.below hbel nlr
  exact hO1.far (fun q hq e=>hO1.bT hC1 qC q hq e) _
 ·exact((HC1.out.below hbel hzC).bM _ _).eq spA
 ·exact(HQ1.out.below hbel hzQ).far e9 _
 ·exact(ae hbW1 hbel hbW1.size).setCell spA _
 clear HO1 f1 c1 HC1 HQ1 hbel hzC hzQ hzO hbW1 hbW
 rintro W2 ⟨hT2,hC2,hQ2,hbW2⟩
 have HO2:=qh hT2
 have HC2:=qh hC2
 have HQ2:=qh hQ2
 have p0:=hC2.cell 0
 simp only[gE3]at p0
 have hzC:=hC2.lt
 have hzQ:=hQ2.lt
 have hb1:=hT2.row b1 rfl
 have h0':((ts.length:Int) == 0)=false:=by rw[beq_eq_false_iff_ne];omega
 have HK2:=qh (HK.out.below hbW2)
 have hG2:w.grownBy W2 (some g):=au _ hbW2
 have hdr:Below W2.heap.size W2 W2.drew:=brf.drew
 have h0i:(0:Int)<(ts.length:Int):=by omega
 clear hT2 hC2 hQ2
 go_upto_region 5 with (fail)
 refine wp_region_held_drew (S:=fun u=>u.cell? ⟨w.heap.size,0,none⟩=some (.slice (some ⟨b1,0,none⟩) ts.length cT)) krA p0 (fun hHeld =>?_)
 refine tkH 0 hHeld ?_
 refine tkH 1 hHeld ?_
 refine tkH 2 hHeld ?_
 refine tkH 3 hHeld ?_
 refine tkH 4 hHeld ?_
 refine tkH 5 hHeld ?_
 refine wpAnyH_ready (rs:= [6]) krA spA ?_
 refine AllReadyH.cons rfl (fun K hK =>?_) AllReadyH.nil
 go_simp
 (go_at_call 14;(with_reducible refine(aA g b (ts.length:Int) _ (HK2.out.below hdr) omA omA).mono ?_))
 rintro e W3 ⟨r,rfl,hr,hk3,hg3⟩
 have hr':r<ts.length:=by rcases hr with h|h<;>omega
 have hri:(r:Int)<(ts.length:Int):=by omega
 have HO3:=qh (HO2.out.drew.grown hg3 hgl)
 have hC3:=HC2.out.drew.grown hg3 inA
 have HQ3:=qh (HQ2.out.drew.grown hg3 inA)
 have HC3:=qh hC3
 have HG3:Hid (w.grownBy W3 (some g)):=qh (az (nM hG2) hg3)
 have HK3:=qh hk3
 have p0':=hC3.cell 0
 simp only[gE3]at p0'
 go_wp2_with fail
 refine hK.out _ _ p0' (fun hHeld =>?_)
 clear hK K hk3 hg3 hr hC3
 (try simp only[Act.put,gP6])
 refine tkH 7 hHeld ?_
 refine tkH 8 hHeld ?_
 refine wpAnyH_done krA ?_ _
 clear hHeld p0 p0' HO2 HC2 HQ2 HK2 hG2 hdr hzC hzQ h0' hbW2
 obtain⟨t,htr⟩:∃t,ts[r]=t:=⟨_,rfl⟩
 have HTR:=qh htr
 have hcl:=HOK.out.af hr'
 rw[htr]at hcl
 obtain⟨n,hn⟩:∃n,t.af.length=n:=⟨_,rfl⟩
 have HN:=qh hn
 rw[hn]at hcl
 have hTu:aJ W3 W3.heap.size A ts:=HT.out.jh HG3.out HNE.out
 have ug:Hid (ah W3 W3.heap.size Col.cells 7 t.A t.af):=qh (by rw[←htr];exact(hTu.2 _ (lgm hr')).1)
 obtain⟨t0,t1,_,_⟩:=Tab.fe (w:=W3) (b:=b1) (o:=r*4) (x:=ts[r]) (fun j u hu=>HO3.out.pE gy hr' hu)
 rw[htr,hn]at t1
 have UO:((n:Int) == 0)=false:=by rw[beq_eq_false_iff_ne];omega
 have hft:∀j,W3.frozen? ⟨b1,j,none⟩=false:=fun j=>HO3.out.frz j
 have hzO:=HO3.out.lt b1 rfl
 clear htr hn hTu t0
 go_upto_region 9 with (at_builtin;go_must (refine aK _ rfl (.tmp 38) (.tmp 42) 75 rfl 79 ic _ Col.cells 7 96 Tryz.underlying75 hic sV sU sS rfl omA dS BD w.heap.size (.slice (some ⟨W3.heap.size,0,none⟩) 0 0) [] rfl (ax.empty (Blk.new' rfl) omA) _ _ _ t.af rfl HN.out.symm (ug.out.next ak) (by simp[HN.out];omega) (by simp[maxLen,HN.out];omega) smA ?_);intro v' w4 hown' hg' hat';have hbel:Below W3.heap.size W3 w4:=Below.grown ak hg' spA (bR nlr);rw[List.nil_append]at hown';obtain⟨b2,cC,hv,hbb⟩:=hat'.elim (fun h=>hown'.gW h) (fun h=>hown'.gW h);rw[HN.out]at hv;subst hv;have HOWN':=qh hown';have f1:∀j,w4.frozen? ⟨b1,j,none⟩=false:=(fun j=>(HO3.out.below hbel nlr).frz j);have hbz:=hbel.size;have c1:=(HO3.out.below hbel nlr).pE gy hr' (j:= 1) rfl;clear hown' hg' hat' hft t1)
 refine ai (P:=fun u=>Code.wp _ _ _ _ u) (R:=fun u=>SpM w u w.heap.size g b b1 b2 cT cC r ts ⟨t.name,some ⟨b2,0,none⟩,cC,t.af,t.erase,t.eD⟩ t.af #[.slice (some ⟨b1,0,none⟩) ts.length cT,.slice vA 0 vc,.slice none 0 0,.slice none 0 0,.slice none 0 0,.slice none 0 0,.slice none 0 0,.slice none 0 0]∧Blk u (w.heap.size+1) 39 #[.slice none 0 0,.slice none 0 0,.slice none 0 0,.slice none 0 0,.slice none 0 0,.slice none 0 0,.slice none 0 0,.slice none 0 0]) ⟨?_,?_⟩ ?_
 ·have h4:SpM w w4 w.heap.size g b b1 b2 cT cC r ts t t.af #[.slice (some ⟨b1,0,none⟩) ts.length cT,.slice vA 0 vc,.slice none 0 0,.slice none 0 0,.slice none 0 0,.slice none 0 0,.slice none 0 0,.slice none 0 0]:=
   ⟨by have h:=HO3.out.below hbel nlr;rwa [←HTR.out,List.set_getElem_self],by have h:=HOWN'.out;rwa [←HN.out]at h,HC3.out.below hbel HC3.out.lt,HK3.out.below hbel,az HG3.out (au _ hbel)⟩
  exact h4.Hg hr' hgl hbl ⟨t.name,some ⟨b2,0,none⟩,cC,t.af,t.erase,t.eD⟩ (j:= 1) omA rfl eW
 ·have h1:=HO3.out.bT HQ3.out qC b1 rfl
  exact(HQ3.out.below hbel HQ3.out.lt).far (fun e=>h1 e.symm) _
 clear HOWN' f1 c1 hbel hbz UO ug HO3 HC3 HQ3 HK3 HG3 hzO
 rintro W4 ⟨hI,hQ⟩
 have HI4:=qh hI
 have HQ4:=qh hQ
 have t1:=hI.nO hr' (j:= 1) (x:= .slice (some ⟨b2,0,none⟩) n cC) eW
 have hdr:Below W4.heap.size W4 W4.drew:=brf.drew
 have hgw:w.heap.size≤W4.heap.size:=hI.grown.size
 clear hI hQ
 go_upto_region 9 with (fail)
 refine wp_region_held_drew (S:=fun u=>u.cell? ⟨b1,r*4+1,none⟩=some (.slice (some ⟨b2,0,none⟩) n cC)) krA t1 (fun hHeld =>?_)
 refine tkH 0 hHeld ?_
 refine tkH 1 hHeld ?_
 refine tkH 2 hHeld ?_
 refine tkH 3 hHeld ?_
 refine tkH 4 hHeld ?_
 refine tkH 5 hHeld ?_
 refine tkH 6 hHeld ?_
 refine tkH 7 hHeld ?_
 refine tkH 8 hHeld ?_
 refine tkH 9 hHeld ?_
 refine wpAnyH_ready (rs:= [10]) krA spA ?_
 refine AllReadyH.cons rfl (fun K hK =>?_) AllReadyH.nil
 go_simp
 (go_at_call 14;(with_reducible refine(aA g b (n:Int) _ (HI4.out.tape.below hdr) omA omA).mono ?_))
 rintro e W5 ⟨q,rfl,hq,hk5,hg5⟩
 have hq':q<n:=by rcases hq with h|h<;>omega
 have hqi:(q:Int)<(n:Int):=by omega
 have hI5:=(HI4.out.below hdr).next hg5 hk5 hgl omA
 have HI5:=qh hI5
 have HQ5:=qh (HQ4.out.drew.grown hg5 inA)
 have t1':=hI5.nO hr' (j:= 1) (x:= .slice (some ⟨b2,0,none⟩) n cC) eW
 go_wp2_with fail
 refine hK.out _ _ t1' (fun hHeld =>?_)
 clear hK K hk5 hg5 hq hI5
 (try simp only[Act.put,gP6])
 refine tkH 11 hHeld ?_
 refine tkH 12 hHeld ?_
 refine wpAnyH_done krA ?_ _
 clear hHeld t1 t1' HI4 HQ4 hdr hgw
 have p1:=HI5.out.cat.cell 1
 simp only[gE3]at p1
 go_wp2_with fail
 (with_reducible refine(aA g b 16 _ HI5.out.tape omA omA).mono ?_)
 rintro e W6 ⟨r3,rfl,hr3,hk6,hg6⟩
 have EZ:r3<16:=by rcases hr3 with h|h<;>omega
 have HI:=qh (HI5.out.next hg6 hk6 hgl omA)
 have HQ:=qh (HQ5.out.grown hg6 inA)
 have hqc:q<t.af.length:=by rw[HN.out];exact hq'
 clear p1 HI5 HQ5 hk6 hg6 hr3
 go_upto_block 0 with (fail)
 refine Cb _ w W6 g b b1 b2 cT cC r q r3 n vA vc ts t _ (fun c a d v u h=>by cases d<;>exact h) rfl rfl rfl _ rfl rfl rfl rfl hgl hbl hr' EZ HTR.out HN.out hcl hqc HS.out HI.out HQ.out ?_
 clear HI HQ
 intro T u hsz h3 h4 hcut
 obtain⟨_,g3⟩:=Array.getElem_of_getElem? h3
 obtain⟨_,g4⟩:=Array.getElem_of_getElem? h4
 obtain⟨b3,c3,t0,af,o,hO,h16,hn0,cs,U7,hcs,hcl0,hcap,hA,hc⟩:=hcut
 obtain⟨a0,a1,a2,a3,a4,a5,a6,a7⟩:=Cat.aZ hO.mem.cat
 obtain⟨b0,b1',b2',b3',b4,b5,b6,b7⟩:=Cat.aZ hO.res
 have f0:=hO.res.frozen 0
 have f1:=hO.res.frozen 1
 have f2:=hO.res.frozen 2
 have f3:=hO.res.frozen 3
 have f4:=hO.res.frozen 4
 have f5:=hO.res.frozen 5
 have f6:=hO.res.frozen 6
 have f7:=hO.res.frozen 7
 have hrz:=hO.res.lt
 have HO:=qh hO
 have HCS:=qh hcs
 have HA:=qh hA
 have HC:=qh hc
 clear hO hcs hA hc h3 h4
 go_wp2_with fail
 have hg:=aj (aj (aj (aj (aj (aj (aj (aj (iy u (some (w.heap.size+1))) (p:=⟨w.heap.size+1,0,none⟩) (.inl rfl) (.slice (some ⟨b1,0,none⟩) ts.length cT)) (p:=⟨w.heap.size+1,1,none⟩) (.inl rfl) (.slice o.vA 0 o.vc)) (p:=⟨w.heap.size+1,2,none⟩) (.inl rfl) (.slice o.iA o.idx.length o.ic)) (p:=⟨w.heap.size+1,3,none⟩) (.inl rfl) (.slice o.sA o.skt.length o.sc)) (p:=⟨w.heap.size+1,4,none⟩) (.inl rfl) (.slice o.cA o.cch.length o.cc)) (p:=⟨w.heap.size+1,5,none⟩) (.inl rfl) (.slice o.rA o.rel.length o.rc)) (p:=⟨w.heap.size+1,6,none⟩) (.inl rfl) (.slice o.tA o.str.length o.tc)) (p:=⟨w.heap.size+1,7,none⟩) (.inl rfl) (.slice o.bA o.bak.length o.bc)
 have HG:=qh hg
 clear hg
 refine bodyPost_ret (v:= .agg #[.slice (some ⟨b1,0,none⟩) ts.length cT,.slice o.vA 0 o.vc,.slice o.iA o.idx.length o.ic,.slice o.sA o.skt.length o.sc,.slice o.cA o.cch.length o.cc,.slice o.rA o.rel.length o.rc,.slice o.tA o.str.length o.tc,.slice o.bA o.bak.length o.bc]) (by simp[results,Tryz.results13,go_sem,hsz,g4,b0,b1',b2',b3',b4,b5,b6,b7,hrz]) rfl ?_
 exact SpM.fin (HO.out.mem.past HG.out omA HO.out.res omA hgl hbl) HT.out HNE.out HS.out hr' hgl cs (HCS.out.grown HG.out (lU fun a ha=>(HA.out a ha).2)) hcl0 hcap (fun a ha=>(HA.out a ha).1) hn0 U7
  (fun x hx=>⟨(HC.out x hx).1,(HC.out x hx).2.imp (fun⟨_,h⟩=>h) (fun h=>⟨h.1.grown HG.out (lU fun a ha=>(h.2 a ha).2),fun a ha=>(h.2 a ha).1⟩)⟩)
  (HO.out.inw.jh HG.out (HO.out.up.ne omA)) (HO.out.up.ne omA) HO.out.bZ h16 rfl
end Go.Proofs.YtebippoohpnjkaaGreat
