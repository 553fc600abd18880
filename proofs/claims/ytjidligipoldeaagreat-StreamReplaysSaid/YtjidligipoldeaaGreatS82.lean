/-
  Contracts and plain laws of this seat, part 82.
-/
import Derived.Test.YtjidligipoldeaaGreatS77
set_option linter.unusedVariables false
set_option linter.unusedSimpArgs false
set_option maxRecDepth 100000
set_option maxHeartbeats 16000000
namespace Go.Proofs.YtjidligipoldeaaGreat
open Go.RowKit Go
theorem eE{P:Prop}(h:P:=by decide +kernel):P:=h
def fQ:Col:=⟨⟨#[97]⟩,1,⟨#[112,101,114,115,111,110]⟩,⟨#[]⟩,none,0,[],0,0⟩
def fG(b:Nat):Col:=⟨⟨#[98]⟩,2,⟨#[]⟩,⟨#[]⟩,some ⟨b,0,none⟩,1,[0],0,0⟩
def fK(b q:Nat):Tab:=⟨⟨#[116]⟩,some ⟨q,0,none⟩,2,[fQ,fG b],0,0⟩
theorem M5(ts:List Tab)(b q:Nat):bZ ts [fQ,fG b] 0 0 0 0 fQ=0:=by
 have h1:cE1 fQ=false:=by decide +kernel
 have h2:cE2 [fQ,fG b] 0 fQ=false:=bD (fun⟨k,h,hk,_⟩=>by omega)
 have hr:(!fQ.refs.toList.isEmpty)=false:=by decide +kernel
 have h3:∀tg,cE3 fQ tg=false:=fun tg=>by rw[cE3,hr];rfl
 have h4:∀tg,cE4 ts fQ tg=false:=fun tg=>by rw[cE4,hr,Bool.and_false,Bool.false_and,Bool.or_false];rfl
 have h5:cE5 [fQ,fG b] fQ=false:=by
  have:pb (fT [fQ,fG b] fQ.own)=true:=bS (fun i h=>by simp[fQ]at h)
  rw[cE5,hr,this]
  simp[fQ,fG,aB]
 have h6:cE6 0 0 0 fQ=false:=by rfl
 have h7:∀tg,cE7 ts 0 fQ tg=false:=fun tg=>by rw[cE7,hr];rfl
 unfold bZ
 simp only[h1,h2,h3,h4,h5,h6,h7]
 rfl
theorem M4(ts:List Tab)(b q:Nat):bZ ts [fQ,fG b] 0 0 0 1 (fG b)=0:=by
 have h1:cE1 (fG b)=false:=by
  have e1:dX (fG b).name=true:=by show dX ⟨#[98]⟩=true;decide +kernel
  have e2:(!(fG b).ns.toList.isEmpty)=false:=by show (!(⟨#[]⟩:ByteArray).toList.isEmpty)=false;decide +kernel
  rw[cE1,e1,e2]
  rfl
 have h2:cE2 [fQ,fG b] 1 (fG b)=false:=bD (fun⟨k,h,hk,he⟩=>by
  obtain rfl:k=0:=by omega
  have he:(⟨#[97]⟩:ByteArray)=⟨#[98]⟩:=he
  exact absurd he eE)
 have hr:(!(fG b).refs.toList.isEmpty)=false:=by show (!(⟨#[]⟩:ByteArray).toList.isEmpty)=false;decide +kernel
 have hn:(!(fG b).ns.toList.isEmpty)=false:=hr
 have h3:∀tg,cE3 (fG b) tg=false:=fun tg=>by rw[cE3,hr];rfl
 have h4:∀tg,cE4 ts (fG b) tg=false:=fun tg=>by rw[cE4,hr,Bool.and_false,Bool.false_and,Bool.or_false];rfl
 have h5:cE5 [fQ,fG b] (fG b)=false:=by
  have:pb (fT [fQ,fG b] (fG b).own)=true:=bS (fun i h=>by
   have h':i<1:=h
   obtain rfl:i=0:=by omega
   refine⟨show (0:Int)≤0 by omega,show (0:Int).toNat<2 by decide,fun h0=>absurd h0 omA,?_⟩
   rintro⟨e,_⟩
   have e:(⟨#[112,101,114,115,111,110]⟩:ByteArray)=⟨#[]⟩:=e
   exact absurd e eE)
  rw[cE5,hr,this]
  simp[fQ,fG,aB]
 have h6:cE6 0 0 1 (fG b)=false:=by rfl
 have h7:∀tg,cE7 ts 1 (fG b) tg=false:=fun tg=>by rw[cE7,hr];rfl
 unfold bZ
 simp only[h1,h2,h3,h4,h5,h6,h7]
 rfl
theorem Hr(b q:Nat):aR [fK b q]:=by
 refine⟨by simp,fun i h =>?_⟩
 have h':i<1:=by simpa using h
 obtain rfl:i=0:=by omega
 refine⟨?_,fun k hk=>by omega,?_⟩
 ·show dX ⟨#[116]⟩=true
  decide +kernel
 ·show jy [fK b q] 0 (fK b q)=0
  have hs:jU (fK b q)=true:=rfl
  rw[jy,if_pos hs]
  refine iE fun i hi =>?_
  have hi':i<2:=hi
  rcases(show i=0∨i=1 by omega) with rfl|rfl
  ·exact M5 _ b q
  ·exact M4 _ b q
theorem mV(b q:Nat):aN [fK b q]:=by
 refine⟨by simp,fun t ht =>?_⟩
 rw[List.mem_singleton.1 ht]
 refine⟨show 1≤1000000 by omega,show 2≤1000000 by omega,Nat.le_refl 2,fun x hx =>?_⟩
 have hx:x=fQ∨x=fG b:=by simpa[fK]using hx
 rcases hx with rfl|rfl
 ·exact⟨show 1≤1000000 by omega,show 6≤1000000 by omega,show 0≤1000000 by omega,show 0≤1000000 by omega⟩
 ·exact⟨show 1≤1000000 by omega,show 0≤1000000 by omega,show 0≤1000000 by omega,show 1≤1000000 by omega⟩
theorem Dj(w:World):Calls Tryz.prog 22 #[] w fun e w' =>
 (∃A b q,e=.returned (.agg #[.slice A 1 1,.slice none 0 0,.slice none 0 0,.slice none 0 0,.slice none 0 0,.slice none 0 0,.slice none 0 0,.slice none 0 0])∧aF w' w'.heap.size A [fK b q])∧Below w.heap.size w w':=by
 go_enter Tryz.func22,Tryz.ntmps22
 go_wp2_with fail
 refine aj (P:=fun u=>bodyPost _ _ _ _ _ u) (R:=fun u=>Blk u w.heap.size 33 #[.slice (some ⟨w.heap.size+1+1+1,0,none⟩) 1 1,.slice none 0 0,.slice none 0 0,.slice none 0 0,.slice none 0 0,.slice none 0 0,.slice none 0 0,.slice none 0 0]∧Blk u (w.heap.size+1) 3 ([(0:Int)].flatMap intCells).toArray∧Blk u (w.heap.size+1+1) 109 ([fQ,fG (w.heap.size+1)].flatMap Col.cells).toArray∧Blk u (w.heap.size+1+1+1) 61 ([fK (w.heap.size+1) (w.heap.size+1+1)].flatMap Tab.cells).toArray∧Below w.heap.size w u) ⟨?_,?_,?_,?_,?_⟩ ?_
 ·exact(((Blk.new _ _ _).alloc _).alloc _).alloc _
 ·exact(((Blk.new' spA).eq rfl).alloc _).alloc _
 ·exact((Blk.new' spA).eq rfl).alloc _
 ·exact(Blk.new' spA).eq rfl
 ·exact ak
 rintro W ⟨hR,hI,hC,hT,hbW⟩
 obtain⟨p0,p1,p2,p3,p4,p5,p6,p7⟩:=Cat.blk hR
 refine bodyPost_ret (v:= .agg #[.slice (some ⟨w.heap.size+1+1+1,0,none⟩) 1 1,.slice none 0 0,.slice none 0 0,.slice none 0 0,.slice none 0 0,.slice none 0 0,.slice none 0 0,.slice none 0 0]) (by simp[results,Tryz.results22,go_sem,p0,p1,p2,p3,p4,p5,p6,p7]) rfl ⟨⟨_,w.heap.size+1,w.heap.size+1+1,rfl,?_,?_⟩,hbW⟩
 ·exact Blk.all jL hT hT.lt
 ·intro t ht
  rw[List.mem_singleton.1 ht]
  refine⟨Blk.all fF hC hC.lt,fun x hx =>?_⟩
  have hx:x=fQ∨x=fG (w.heap.size+1):=by simpa[fK]using hx
  rcases hx with rfl|rfl
  ·exact ag.nil
  ·exact Blk.all bq hI hI.lt
open Go.RowKit Go
def lD:Val:=⟨1,1,⟨#[]⟩⟩
def sX:Val:=⟨2,0,⟨#[120]⟩⟩
def sY:Val:=⟨2,0,⟨#[121]⟩⟩
def sA(A:Option Addr)(cp:Nat):Chg:=⟨1,1,0,0,A,cp,[lD,sX],dN,0,dN⟩
def sB:Chg:=⟨2,4,0,0,none,0,[],lD,1,sY⟩
def sC:Chg:=⟨3,6,0,0,none,0,[],lD,0,dN⟩
def sR1:aJ:=([lD,sX],[1,1],0)
def sR2:aJ:=([lD,sY],[1,4],0)
theorem XG(b:Nat):pb (cZ [fQ,fG b] 1)=false:=bD (fun h=>by
 rcases h with h|⟨x,hx,h⟩
 ·exact absurd h (by decide)
 ·have hx:x=fQ∨x=fG b:=by simpa using hx
  rcases hx with rfl|rfl
  ·cases h
  ·have h:(1:Int)∈[(0:Int)]:=h
   exact absurd h (by decide))
theorem OW(b q:Nat)(A:Option Addr)(cp:Nat):aY [fK b q] (sA A cp)=0:=by
 have h1:bE [fK b q] (sA A cp)=false:=by
  have e:uu [lD,sX]=true:=by decide +kernel
  have e2:dD 2 (sA A cp)=false:=by
   unfold dD
   rw[show (sA A cp).row=[lD,sX] from rfl,e]
   show (((decide (dN≠dN)||(0:Int) != 0)||decide (dN≠dN))||(2:Int) != 2 || !true)=false
   decide +kernel
  have e3:bE [fK b q] (sA A cp)=(eF 1 (sA A cp)||dD 2 (sA A cp)):=rfl
  rw[e3,e2]
  rfl
 have h2:((keyOf (sA A cp)).kind == 0)=false:=rfl
 have h3:pb (fH (dx [fK b q] (sA A cp).table) (sA A cp).row)=true:=bS (fun i h k=>by
  have h':i<2:=h
  rcases(show i=0∨i=1 by omega) with rfl|rfl<;>rfl)
 have h4:iL (dx [fK b q] (sA A cp).table) (sA A cp)=false:=rfl
 unfold aY
 rw[h1,h2,h3,h4]
 rfl
theorem OV(b q:Nat):aY [fK b q] sB=0:=by
 have h1:bE [fK b q] sB=false:=by
  have e3:bE [fK b q] sB=(eF 1 sB||dC 2 sB):=rfl
  have e2:dC 2 sB=false:=by decide +kernel
  rw[e3,e2]
  rfl
 have h2:((keyOf sB).kind == 0)=false:=rfl
 have h3:pb (fH (dx [fK b q] sB.table) sB.row)=true:=bS (fun i h k=>by cases h)
 have h4:iL (dx [fK b q] sB.table) sB=false:=rfl
 have h5:pb (cZ (dx [fK b q] sB.table) sB.column)=false:=XG b
 unfold aY
 rw[h1,h2,h3,h4,h5]
 rfl
theorem OU(b q:Nat):aY [fK b q] sC=0:=by
 have h1:bE [fK b q] sC=false:=by
  have e3:bE [fK b q] sC=(eF 1 sC||dW sC):=rfl
  have e2:dW sC=false:=by decide +kernel
  rw[e3,e2]
  rfl
 have h2:((keyOf sC).kind == 0)=false:=rfl
 have h3:pb (fH (dx [fK b q] sC.table) sC.row)=true:=bS (fun i h k=>by cases h)
 have h4:iL (dx [fK b q] sC.table) sC=false:=rfl
 unfold aY
 rw[h1,h2,h3,h4]
 rfl
theorem Bv(b q:Nat):dh [fK b q] [unC (sA none 0),unC sB,unC sC]:=by
 refine iO (Hr b q) (by show 3≤1024;omega) (fun x hx =>?_) ?_
 ·have h:x=unC (sA none 0)∨x=unC sB∨x=unC sC:=by simpa using hx
  rcases h with rfl|rfl|rfl
  ·exact tK (OW b q none 0)
  ·exact tK (OV b q)
  ·exact tK (OU b q)
 ·simp[unC,sA,sB,sC]
theorem K9(b q:Nat):dh [fK b q] [unC (sA none 0),unC sB]:=oL (Bv b q) 2
theorem La(b q:Nat):dh [fK b q] [unC (sA none 0)]:=oL (Bv b q) 1
def psA:List lG:= [(0,unC (sA none 0))]
def psB:List lG:= [(0,unC (sA none 0)),(1,unC sB)]
def psC:List lG:= [(0,unC (sA none 0)),(1,unC sB),(2,unC sC)]
theorem PO(b q:Nat):dS [fK b q] 0 0 0 []:=dS.nil (Hr b q) spA
theorem PN(b q:Nat):dS [fK b q] 0 0 1 psA:=(PO b q).app (x:=unC (sA none 0)) rfl (La b q) spA (by decide)
theorem Lp(b q:Nat):dS [fK b q] 0 0 2 psB:=(PN b q).app (x:=unC sB) rfl (K9 b q) (by simp[psA]) (by decide)
theorem SN(b q:Nat):dS [fK b q] 0 0 3 psC:=(Lp b q).app (x:=unC sC) rfl (Bv b q) (by simp[psB]) (by decide)
theorem KV:bB [] (unC (sA none 0))=[sR1]:=by
 rw[kI rfl (by have e:dz [] (keyOf (unC (sA none 0)))=-1:=(by unfold dz;split<;>rfl);rw[e];decide) (by decide)]
 rfl
theorem KU:bB [sR1] (unC sB)=[sR2]:=by
 rw[kH (j:= 0) rfl eE]
 rfl
theorem QI:bB [sR2] (unC sC)=[]:=by
 rw[kJ (j:= 0) (by decide) (by decide) eE]
 rfl
theorem QP:nW psB 2=[sR2]:=by
 show bB (bB [] (unC (sA none 0))) (unC sB)=[sR2]
 rw[KV,KU]
theorem QO:nW psC 3=[]:=by
 show bB (bB (bB [] (unC (sA none 0))) (unC sB)) (unC sC)=[]
 rw[KV,KU,QI]
theorem R9:yZ 2 psB=[(0,⟨1,1,0,0,none,0,[lD,uE],dN,0,dN⟩),(1,unC sB)]:=by
 have hc:pz 2 psB=2:=by decide
 unfold yZ
 rw[hc,QP]
 have h1:il [sR2] (unC (sA none 0))=[⟨1,1,0,0,none,0,[lD,uE],dN,0,dN⟩]:=by
  unfold il
  rw[if_pos (show (unC (sA none 0)).kind=1 from rfl)]
  rfl
 have h2:il [sR2] (unC sB)=[unC sB]:=by
  unfold il
  rw[if_neg (show ¬ (unC sB).kind=1 by decide),if_pos (show (unC sB).kind=2 from rfl)]
  have h3:([sR2].find? fun r=>decide (aA r=(unC sB).key))=some sR2:=by
   rw[List.find?_cons_of_pos eE]
  rw[h3]
  rfl
 show ((il [sR2] (unC (sA none 0))).map fun y=>((0:Int),y))++(((il [sR2] (unC sB)).map fun y=>((1:Int),y)) ++ []) ++ []=_
 rw[h1,h2]
 rfl
theorem R8:yZ 3 psC=[]:=by
 have hc:pz 3 psC=3:=by decide
 unfold yZ
 rw[hc,QO]
 rfl
end Go.Proofs.YtjidligipoldeaaGreat
