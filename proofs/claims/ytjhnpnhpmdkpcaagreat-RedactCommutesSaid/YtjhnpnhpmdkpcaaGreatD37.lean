/-
  Contracts and plain laws of this seat, part 37.
-/
import Derived.Test.YtjhnpnhpmdkpcaaGreatD29
import Derived.Test.YtjhnpnhpmdkpcaaGreatD33
set_option linter.unusedVariables false
set_option linter.unusedSimpArgs false
set_option maxRecDepth 100000
set_option maxHeartbeats 16000000
namespace Go.Proofs.YtjhnpnhpmdkpcaaGreat
open Go.RowKit Go
def nG:Col:=⟨⟨#[107]⟩,1,⟨#[]⟩,⟨#[]⟩,none,0,[],0,0⟩
def nE:Col:=⟨⟨#[118]⟩,2,⟨#[]⟩,⟨#[]⟩,none,0,[],0,0⟩
def fK(q:Nat):Tab:=⟨⟨#[116]⟩,some ⟨q,0,none⟩,2,[nG,nE],0,0⟩
theorem Ir(ts:List Tab){i:Nat}{x:Col}(hi:i=0∧x=nG∨i=1∧x=nE):cK ts [nG,nE] 0 0 0 i x=0:=by
 have hr0:(!(⟨#[]⟩:ByteArray).toList.isEmpty)=false:=by decide +kernel
 have hr:(!x.refs.toList.isEmpty)=false:=by rcases hi with ⟨_,rfl⟩|⟨_,rfl⟩<;>exact hr0
 have hn:(!x.ns.toList.isEmpty)=false:=by rcases hi with ⟨_,rfl⟩|⟨_,rfl⟩<;>exact hr0
 have h1:cE1 x=false:=by
  have e1:dM x.name=true:=by
   rcases hi with ⟨_,rfl⟩|⟨_,rfl⟩
   ·show dM ⟨#[107]⟩=true;decide +kernel
   ·show dM ⟨#[118]⟩=true;decide +kernel
  rw[cE1,e1,hn]
  rcases hi with ⟨_,rfl⟩|⟨_,rfl⟩<;>rfl
 have h2:cE2 [nG,nE] i x=false:=aQ (fun⟨k,h,hk,he⟩=>by
  rcases hi with ⟨rfl,rfl⟩|⟨rfl,rfl⟩
  ·omega
  ·obtain rfl:k=0:=by omega
   have he:(⟨#[107]⟩:ByteArray)=⟨#[118]⟩:=he
   exact absurd he (by decide +kernel))
 have h3:∀tg,cE3 x tg=false:=fun tg=>by rw[cE3,hr];rfl
 have h4:∀tg,cE4 ts x tg=false:=fun tg=>by rw[cE4,hr,Bool.and_false,Bool.false_and,Bool.or_false];rcases hi with ⟨_,rfl⟩|⟨_,rfl⟩<;>rfl
 have h5:cE5 [nG,nE] x=false:=by
  have:pb (fT [nG,nE] x.own)=true:=aY (fun i h=>by rcases hi with ⟨_,rfl⟩|⟨_,rfl⟩<;>simp[nG,nE]at h)
  rw[cE5,hr,this]
  rcases hi with ⟨_,rfl⟩|⟨_,rfl⟩<;>simp[nG,nE,az]
 have h6:cE6 0 0 i x=false:=by rcases hi with ⟨rfl,rfl⟩|⟨rfl,rfl⟩<;>rfl
 have h7:∀tg,cE7 ts 0 x tg=false:=fun tg=>by rw[cE7,hr];rcases hi with ⟨_,rfl⟩|⟨_,rfl⟩<;>rfl
 have h7':∀tg,cE7 ts i x tg=false:=fun tg=>by rw[cE7,hr];rcases hi with ⟨_,rfl⟩|⟨_,rfl⟩<;>rfl
 unfold cK
 simp only[h1,h2,h3,h4,h5,h6,h7,h7']
 rfl
theorem Qc(q:Nat):aW [fK q]:=by
 refine⟨by simp,fun i h =>?_⟩
 have h':i<1:=by simpa using h
 obtain rfl:i=0:=by omega
 refine⟨?_,fun k hk=>by omega,?_⟩
 ·show dM ⟨#[116]⟩=true
  decide +kernel
 ·show ik [fK q] 0 (fK q)=0
  have hs:gK (fK q)=true:=rfl
  rw[ik,if_pos hs]
  refine gY fun i hi =>?_
  have hi':i<2:=hi
  rcases(show i=0∨i=1 by omega) with rfl|rfl
  ·exact Ir _ (.inl ⟨rfl,rfl⟩)
  ·exact Ir _ (.inr ⟨rfl,rfl⟩)
theorem vG(q:Nat):aL [fK q]:=by
 refine⟨by simp,fun t ht =>?_⟩
 rw[List.mem_singleton.1 ht]
 refine⟨show 1≤1000000 by omega,show 2≤1000000 by omega,Nat.le_refl 2,fun x hx =>?_⟩
 have hx:x=nG∨x=nE:=by simpa[fK]using hx
 rcases hx with rfl|rfl
 ·exact⟨show 1≤1000000 by omega,show 0≤1000000 by omega,show 0≤1000000 by omega,show 0≤1000000 by omega⟩
 ·exact⟨show 1≤1000000 by omega,show 0≤1000000 by omega,show 0≤1000000 by omega,show 0≤1000000 by omega⟩
open Go.RowKit Go
def iT:Val:=⟨1,1,⟨#[]⟩⟩
def vX:Val:=⟨2,0,⟨#[120]⟩⟩
def cA(A:Option Addr)(cp:Nat):Chg:=⟨1,5,0,0,A,cp,[iT,vX],fG,0,fG⟩
def rA:aS:=([iT,vX],[5,5],0)
theorem v_x:bL vX=true:=by decide +kernel
theorem Xr{k:Int}(hk:k≠0):pb (di [nG,nE] k)=false:=aQ (fun h=>by
 rcases h with h|⟨x,hx,h⟩
 ·exact hk h
 ·have hx:x=nG∨x=nE:=by simpa using hx
  rcases hx with rfl|rfl<;>cases h)
end Go.Proofs.YtjhnpnhpmdkpcaaGreat
