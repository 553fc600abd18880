/-
  Contracts and plain laws of this seat, part 82.
-/
import Derived.Test.YtjidligipoldeaaGreatT77
set_option linter.unusedVariables false
set_option linter.unusedSimpArgs false
set_option maxRecDepth 100000
set_option maxHeartbeats 16000000
namespace Go.Proofs.YtjidligipoldeaaGreat
open Go.RowKit Go
theorem eE{P:Prop}(h:P:=by decide +kernel):P:=h
def gz:Col:=⟨⟨#[97]⟩,1,⟨#[112,101,114,115,111,110]⟩,⟨#[]⟩,none,0,[],0,0⟩
def fT(b:Nat):Col:=⟨⟨#[98]⟩,2,⟨#[]⟩,⟨#[]⟩,some ⟨b,0,none⟩,1,[0],0,0⟩
def gp(b q:Nat):Tab:=⟨⟨#[116]⟩,some ⟨q,0,none⟩,2,[gz,fT b],0,0⟩
theorem Nj(ts:List Tab)(b q:Nat):df ts [gz,fT b] 0 0 0 0 gz=0:=by
 have h1:cE1 gz=false:=by decide +kernel
 have h2:cE2 [gz,fT b] 0 gz=false:=bg (fun⟨k,h,hk,_⟩=>by omega)
 have hr:(!gz.refs.toList.isEmpty)=false:=by decide +kernel
 have h3:∀tg,cE3 gz tg=false:=fun tg=>by rw[cE3,hr];rfl
 have h4:∀tg,cE4 ts gz tg=false:=fun tg=>by rw[cE4,hr,Bool.and_false,Bool.false_and,Bool.or_false];rfl
 have h5:cE5 [gz,fT b] gz=false:=by
  have:pb (gB [gz,fT b] gz.own)=true:=bV (fun i h=>by simp[gz]at h)
  rw[cE5,hr,this]
  simp[gz,fT,aB]
 have h6:cE6 0 0 0 gz=false:=by rfl
 have h7:∀tg,cE7 ts 0 gz tg=false:=fun tg=>by rw[cE7,hr];rfl
 unfold df
 simp only[h1,h2,h3,h4,h5,h6,h7]
 rfl
theorem Ni(ts:List Tab)(b q:Nat):df ts [gz,fT b] 0 0 0 1 (fT b)=0:=by
 have h1:cE1 (fT b)=false:=by
  have e1:eY (fT b).name=true:=by show eY ⟨#[98]⟩=true;decide +kernel
  have e2:(!(fT b).ns.toList.isEmpty)=false:=by show (!(⟨#[]⟩:ByteArray).toList.isEmpty)=false;decide +kernel
  rw[cE1,e1,e2]
  rfl
 have h2:cE2 [gz,fT b] 1 (fT b)=false:=bg (fun⟨k,h,hk,he⟩=>by
  obtain rfl:k=0:=by omega
  have he:(⟨#[97]⟩:ByteArray)=⟨#[98]⟩:=he
  exact absurd he eE)
 have hr:(!(fT b).refs.toList.isEmpty)=false:=by show (!(⟨#[]⟩:ByteArray).toList.isEmpty)=false;decide +kernel
 have hn:(!(fT b).ns.toList.isEmpty)=false:=hr
 have h3:∀tg,cE3 (fT b) tg=false:=fun tg=>by rw[cE3,hr];rfl
 have h4:∀tg,cE4 ts (fT b) tg=false:=fun tg=>by rw[cE4,hr,Bool.and_false,Bool.false_and,Bool.or_false];rfl
 have h5:cE5 [gz,fT b] (fT b)=false:=by
  have:pb (gB [gz,fT b] (fT b).own)=true:=bV (fun i h=>by
   have h':i<1:=h
   obtain rfl:i=0:=by omega
   refine⟨show (0:Int)≤0 by omega,show (0:Int).toNat<2 by decide,fun h0=>absurd h0 omA,?_⟩
   rintro⟨e,_⟩
   have e:(⟨#[112,101,114,115,111,110]⟩:ByteArray)=⟨#[]⟩:=e
   exact absurd e eE)
  rw[cE5,hr,this]
  simp[gz,fT,aB]
 have h6:cE6 0 0 1 (fT b)=false:=by rfl
 have h7:∀tg,cE7 ts 1 (fT b) tg=false:=fun tg=>by rw[cE7,hr];rfl
 unfold df
 simp only[h1,h2,h3,h4,h5,h6,h7]
 rfl
theorem G6(b q:Nat):aN [gp b q]:=by
 refine⟨by simp,fun i h =>?_⟩
 have h':i<1:=by simpa using h
 obtain rfl:i=0:=by omega
 refine⟨?_,fun k hk=>by omega,?_⟩
 ·show eY ⟨#[116]⟩=true
  decide +kernel
 ·show jC [gp b q] 0 (gp b q)=0
  have hs:kC (gp b q)=true:=rfl
  rw[jC,if_pos hs]
  refine iR fun i hi =>?_
  have hi':i<2:=hi
  rcases(show i=0∨i=1 by omega) with rfl|rfl
  ·exact Nj _ b q
  ·exact Ni _ b q
theorem nG(b q:Nat):aM [gp b q]:=by
 refine⟨by simp,fun t ht =>?_⟩
 rw[List.mem_singleton.1 ht]
 refine⟨show 1≤1000000 by omega,show 2≤1000000 by omega,Nat.le_refl 2,fun x hx =>?_⟩
 have hx:x=gz∨x=fT b:=by simpa[gp]using hx
 rcases hx with rfl|rfl
 ·exact⟨show 1≤1000000 by omega,show 6≤1000000 by omega,show 0≤1000000 by omega,show 0≤1000000 by omega⟩
 ·exact⟨show 1≤1000000 by omega,show 0≤1000000 by omega,show 0≤1000000 by omega,show 1≤1000000 by omega⟩
theorem CX(w:World):Calls Tryz.prog 22 #[] w fun e w' =>
 (∃A b q,e=.returned (.agg #[.slice A 1 1,.slice none 0 0,.slice none 0 0,.slice none 0 0,.slice none 0 0,.slice none 0 0,.slice none 0 0,.slice none 0 0])∧aF w' w'.heap.size A [gp b q])∧Below w.heap.size w w':=by
 go_enter Tryz.func22,Tryz.ntmps22
 go_wp2_with fail
 refine ah (P:=fun u=>bodyPost _ _ _ _ _ u) (R:=fun u=>Blk u w.heap.size 33 #[.slice (some ⟨w.heap.size+1+1+1,0,none⟩) 1 1,.slice none 0 0,.slice none 0 0,.slice none 0 0,.slice none 0 0,.slice none 0 0,.slice none 0 0,.slice none 0 0]∧Blk u (w.heap.size+1) 3 ([(0:Int)].flatMap intCells).toArray∧Blk u (w.heap.size+1+1) 109 ([gz,fT (w.heap.size+1)].flatMap Col.cells).toArray∧Blk u (w.heap.size+1+1+1) 61 ([gp (w.heap.size+1) (w.heap.size+1+1)].flatMap Tab.cells).toArray∧Below w.heap.size w u) ⟨?_,?_,?_,?_,?_⟩ ?_
 ·exact(((Blk.new _ _ _).alloc _).alloc _).alloc _
 ·exact(((Blk.new' spA).eq rfl).alloc _).alloc _
 ·exact((Blk.new' spA).eq rfl).alloc _
 ·exact(Blk.new' spA).eq rfl
 ·exact ai
 rintro W ⟨hR,hI,hC,hT,hbW⟩
 obtain⟨p0,p1,p2,p3,p4,p5,p6,p7⟩:=Cat.blk hR
 refine bodyPost_ret (v:= .agg #[.slice (some ⟨w.heap.size+1+1+1,0,none⟩) 1 1,.slice none 0 0,.slice none 0 0,.slice none 0 0,.slice none 0 0,.slice none 0 0,.slice none 0 0,.slice none 0 0]) (by simp[results,Tryz.results22,go_sem,p0,p1,p2,p3,p4,p5,p6,p7]) rfl ⟨⟨_,w.heap.size+1,w.heap.size+1+1,rfl,?_,?_⟩,hbW⟩
 ·exact Blk.all jQ hT hT.lt
 ·intro t ht
  rw[List.mem_singleton.1 ht]
  refine⟨Blk.all fQ hC hC.lt,fun x hx =>?_⟩
  have hx:x=gz∨x=fT (w.heap.size+1):=by simpa[gp]using hx
  rcases hx with rfl|rfl
  ·exact ag.nil
  ·exact Blk.all bE hI hI.lt
open Go.RowKit Go
def lI:Val:=⟨1,1,⟨#[]⟩⟩
def sX:Val:=⟨2,0,⟨#[120]⟩⟩
def sY:Val:=⟨2,0,⟨#[121]⟩⟩
def sA(A:Option Addr)(cp:Nat):Chg:=⟨1,1,0,0,A,cp,[lI,sX],dU,0,dU⟩
def sB:Chg:=⟨2,4,0,0,none,0,[],lI,1,sY⟩
def sC:Chg:=⟨3,6,0,0,none,0,[],lI,0,dU⟩
def sR1:aG:=([lI,sX],[1,1],0)
def sR2:aG:=([lI,sY],[1,4],0)
theorem Ye(b:Nat):pb (dn [gz,fT b] 1)=false:=bg (fun h=>by
 rcases h with h|⟨x,hx,h⟩
 ·exact absurd h (by decide)
 ·have hx:x=gz∨x=fT b:=by simpa using hx
  rcases hx with rfl|rfl
  ·cases h
  ·have h:(1:Int)∈[(0:Int)]:=h
   exact absurd h (by decide))
theorem O9(b q:Nat)(A:Option Addr)(cp:Nat):aV [gp b q] (sA A cp)=0:=by
 have h1:bB [gp b q] (sA A cp)=false:=by
  have e:qN [lI,sX]=true:=by decide +kernel
  have e2:dD 2 (sA A cp)=false:=by
   unfold dD
   rw[show (sA A cp).row=[lI,sX] from rfl,e]
   show (((decide (dU≠dU)||(0:Int) != 0)||decide (dU≠dU))||(2:Int) != 2 || !true)=false
   decide +kernel
  have e3:bB [gp b q] (sA A cp)=(eB 1 (sA A cp)||dD 2 (sA A cp)):=rfl
  rw[e3,e2]
  rfl
 have h2:((keyOf (sA A cp)).kind == 0)=false:=rfl
 have h3:pb (fH (bW [gp b q] (sA A cp).table) (sA A cp).row)=true:=bV (fun i h k=>by
  have h':i<2:=h
  rcases(show i=0∨i=1 by omega) with rfl|rfl<;>rfl)
 have h4:iw (bW [gp b q] (sA A cp).table) (sA A cp)=false:=rfl
 unfold aV
 rw[h1,h2,h3,h4]
 rfl
theorem O8(b q:Nat):aV [gp b q] sB=0:=by
 have h1:bB [gp b q] sB=false:=by
  have e3:bB [gp b q] sB=(eB 1 sB||dJ 2 sB):=rfl
  have e2:dJ 2 sB=false:=by decide +kernel
  rw[e3,e2]
  rfl
 have h2:((keyOf sB).kind == 0)=false:=rfl
 have h3:pb (fH (bW [gp b q] sB.table) sB.row)=true:=bV (fun i h k=>by cases h)
 have h4:iw (bW [gp b q] sB.table) sB=false:=rfl
 have h5:pb (dn (bW [gp b q] sB.table) sB.column)=false:=Ye b
 unfold aV
 rw[h1,h2,h3,h4,h5]
 rfl
theorem O7(b q:Nat):aV [gp b q] sC=0:=by
 have h1:bB [gp b q] sC=false:=by
  have e3:bB [gp b q] sC=(eB 1 sC||eG sC):=rfl
  have e2:eG sC=false:=by decide +kernel
  rw[e3,e2]
  rfl
 have h2:((keyOf sC).kind == 0)=false:=rfl
 have h3:pb (fH (bW [gp b q] sC.table) sC.row)=true:=bV (fun i h k=>by cases h)
 have h4:iw (bW [gp b q] sC.table) sC=false:=rfl
 unfold aV
 rw[h1,h2,h3,h4]
 rfl
theorem Be(b q:Nat):bK [gp b q] [unC (sA none 0),unC sB,unC sC]:=by
 refine ib (G6 b q) (by show 3≤1024;omega) (fun x hx =>?_) ?_
 ·have h:x=unC (sA none 0)∨x=unC sB∨x=unC sC:=by simpa using hx
  rcases h with rfl|rfl|rfl
  ·exact j6 (O9 b q none 0)
  ·exact j6 (O8 b q)
  ·exact j6 (O7 b q)
 ·simp[unC,sA,sB,sC]
theorem La(b q:Nat):bK [gp b q] [unC (sA none 0),unC sB]:=pQ (Be b q) 2
theorem Lb(b q:Nat):bK [gp b q] [unC (sA none 0)]:=pQ (Be b q) 1
def psA:List ja:= [(0,unC (sA none 0))]
def psB:List ja:= [(0,unC (sA none 0)),(1,unC sB)]
def psC:List ja:= [(0,unC (sA none 0)),(1,unC sB),(2,unC sC)]
theorem PY(b q:Nat):dF [gp b q] 0 0 0 []:=dF.nil (G6 b q) spA
theorem PX(b q:Nat):dF [gp b q] 0 0 1 psA:=(PY b q).app (x:=unC (sA none 0)) rfl (Lb b q) spA (by decide)
theorem Lv(b q:Nat):dF [gp b q] 0 0 2 psB:=(PX b q).app (x:=unC sB) rfl (La b q) (by simp[psA]) (by decide)
theorem Tg(b q:Nat):dF [gp b q] 0 0 3 psC:=(Lv b q).app (x:=unC sC) rfl (Be b q) (by simp[psB]) (by decide)
theorem KV:aW [] (unC (sA none 0))=[sR1]:=by
 rw[mY rfl (by have e:dV [] (keyOf (unC (sA none 0)))=-1:=(by unfold dV;split<;>rfl);rw[e];decide) (by decide)]
 rfl
theorem KU:aW [sR1] (unC sB)=[sR2]:=by
 rw[mX (j:= 0) rfl eE]
 rfl
theorem QQ:aW [sR2] (unC sC)=[]:=by
 rw[mZ (j:= 0) (by decide) (by decide) eE]
 rfl
theorem QW:gG psB 2=[sR2]:=by
 show aW (aW [] (unC (sA none 0))) (unC sB)=[sR2]
 rw[KV,KU]
theorem QV:gG psC 3=[]:=by
 show aW (aW (aW [] (unC (sA none 0))) (unC sB)) (unC sC)=[]
 rw[KV,KU,QQ]
theorem Sl:dR 2 psB=[(0,⟨1,1,0,0,none,0,[lI,dS],dU,0,dU⟩),(1,unC sB)]:=by
 have hc:dG 2 psB=2:=by decide
 unfold dR
 rw[hc,QW]
 have h1:bS [sR2] (unC (sA none 0))=[⟨1,1,0,0,none,0,[lI,dS],dU,0,dU⟩]:=by
  unfold bS
  rw[if_pos (show (unC (sA none 0)).kind=1 from rfl)]
  rfl
 have h2:bS [sR2] (unC sB)=[unC sB]:=by
  unfold bS
  rw[if_neg (show ¬ (unC sB).kind=1 by decide),if_pos (show (unC sB).kind=2 from rfl)]
  have h3:([sR2].find? fun r=>decide (ay r=(unC sB).key))=some sR2:=by
   rw[List.find?_cons_of_pos eE]
  rw[h3]
  rfl
 show ((bS [sR2] (unC (sA none 0))).map fun y=>((0:Int),y))++(((bS [sR2] (unC sB)).map fun y=>((1:Int),y)) ++ []) ++ []=_
 rw[h1,h2]
 rfl
theorem Sk:dR 3 psC=[]:=by
 have hc:dG 3 psC=3:=by decide
 unfold dR
 rw[hc,QV]
 rfl
end Go.Proofs.YtjidligipoldeaaGreat
