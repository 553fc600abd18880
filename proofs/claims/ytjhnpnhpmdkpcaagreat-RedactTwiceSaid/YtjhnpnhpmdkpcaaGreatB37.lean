/-
  Contracts and plain laws of this seat, part 37: Plain, AwP.
-/
import Derived.Test.YtjhnpnhpmdkpcaaGreatB14
import Derived.Test.YtjhnpnhpmdkpcaaGreatB25
import Derived.Test.YtjhnpnhpmdkpcaaGreatB7
import Derived.Test.YtjhnpnhpmdkpcaaGreatB28
import Derived.Test.YtjhnpnhpmdkpcaaGreatB29
import Derived.Test.YtjhnpnhpmdkpcaaGreatB33
import Derived.Test.YtjhnpnhpmdkpcaaGreatB31
import Derived.Test.YtjhnpnhpmdkpcaaGreatB17
set_option linter.unusedVariables false
set_option linter.unusedSimpArgs false
set_option maxRecDepth 100000
set_option maxHeartbeats 16000000
namespace Go.Proofs.YtjhnpnhpmdkpcaaGreat
open Go.RowKit Go
def colP0:Col:=⟨⟨#[107]⟩,1,⟨#[]⟩,⟨#[]⟩,none,0,[],0,0⟩
def colP1:Col:=⟨⟨#[118]⟩,2,⟨#[]⟩,⟨#[]⟩,none,0,[],0,0⟩
def tabPl (q:Nat):Tab:=⟨⟨#[116]⟩,some ⟨q,0,none⟩,2,[colP0,colP1],0,0⟩
theorem colP_ok (ts:List Tab) {i:Nat} {x:Col} (hi:i = 0∧x=colP0∨i = 1∧x=colP1):colErr ts [colP0,colP1] 0 0 0 i x = 0:=by
 have hr0:(!(⟨#[]⟩:ByteArray).toList.isEmpty)=false:=by decide +kernel
 have hr:(!x.refs.toList.isEmpty)=false:=by rcases hi with ⟨_,rfl⟩|⟨_,rfl⟩ <;> exact hr0
 have hn:(!x.ns.toList.isEmpty)=false:=by rcases hi with ⟨_,rfl⟩|⟨_,rfl⟩ <;> exact hr0
 have h1:cE1 x=false:=by
  have e1:nameB x.name=true:=by
   rcases hi with ⟨_,rfl⟩|⟨_,rfl⟩
   ·show nameB ⟨#[107]⟩=true;decide +kernel
   ·show nameB ⟨#[118]⟩=true;decide +kernel
  rw [cE1,e1,hn]
  rcases hi with ⟨_,rfl⟩|⟨_,rfl⟩ <;> rfl
 have h2:cE2 [colP0,colP1] i x=false:=pb_false (fun ⟨k,h,hk,he⟩=>by
  rcases hi with ⟨rfl,rfl⟩|⟨rfl,rfl⟩
  ·omega
  ·obtain rfl:k = 0:=by omega
   have he:(⟨#[107]⟩:ByteArray)=⟨#[118]⟩:=he
   exact absurd he (by decide +kernel))
 have h3 : ∀ tg,cE3 x tg=false:=fun tg=>by rw [cE3,hr];rfl
 have h4 : ∀ tg,cE4 ts x tg=false:=fun tg=>by rw [cE4,hr,Bool.and_false,Bool.false_and,Bool.or_false];rcases hi with ⟨_,rfl⟩|⟨_,rfl⟩ <;> rfl
 have h5:cE5 [colP0,colP1] x=false:=by
  have:pb (OwnersOk [colP0,colP1] x.own)=true:=pb_true (fun i h=>by rcases hi with ⟨_,rfl⟩|⟨_,rfl⟩ <;> simp [colP0,colP1] at h)
  rw [cE5,hr,this]
  rcases hi with ⟨_,rfl⟩|⟨_,rfl⟩ <;> simp [colP0,colP1,withinB]
 have h6:cE6 0 0 i x=false:=by rcases hi with ⟨rfl,rfl⟩|⟨rfl,rfl⟩ <;> rfl
 have h7 : ∀ tg,cE7 ts 0 x tg=false:=fun tg=>by rw [cE7,hr];rcases hi with ⟨_,rfl⟩|⟨_,rfl⟩ <;> rfl
 have h7' : ∀ tg,cE7 ts i x tg=false:=fun tg=>by rw [cE7,hr];rcases hi with ⟨_,rfl⟩|⟨_,rfl⟩ <;> rfl
 unfold colErr
 simp only [h1,h2,h3,h4,h5,h6,h7,h7']
 rfl
theorem catP_ok (q:Nat):CatOk [tabPl q]:=by
 refine ⟨by simp,fun i h => ?_⟩
 have h':i < 1:=by simpa using h
 obtain rfl:i = 0:=by omega
 refine ⟨?_,fun k hk=>by omega,?_⟩
 ·show nameB ⟨#[116]⟩=true
  decide +kernel
 ·show tabErr [tabPl q] 0 (tabPl q) = 0
  have hs:shapeB (tabPl q)=true:=rfl
  rw [tabErr,if_pos hs]
  refine firstErr_none fun i hi => ?_
  have hi':i < 2:=hi
  rcases (show i = 0∨i = 1 by omega) with rfl|rfl
  ·exact colP_ok _ (.inl ⟨rfl,rfl⟩)
  ·exact colP_ok _ (.inr ⟨rfl,rfl⟩)
theorem catP_sane (q:Nat):SaneCat [tabPl q]:=by
 refine ⟨by simp,fun t ht => ?_⟩
 rw [List.mem_singleton.1 ht]
 refine ⟨show 1 ≤ 1000000 by omega,show 2 ≤ 1000000 by omega,Nat.le_refl 2,fun x hx => ?_⟩
 have hx:x=colP0∨x=colP1:=by simpa [tabPl] using hx
 rcases hx with rfl|rfl
 ·exact ⟨show 1 ≤ 1000000 by omega,show 0 ≤ 1000000 by omega,show 0 ≤ 1000000 by omega,show 0 ≤ 1000000 by omega⟩
 ·exact ⟨show 1 ≤ 1000000 by omega,show 0 ≤ 1000000 by omega,show 0 ≤ 1000000 by omega,show 0 ≤ 1000000 by omega⟩
open Go.RowKit Go
def vOne:Val:=⟨1,1,⟨#[]⟩⟩
def vX:Val:=⟨2,0,⟨#[120]⟩⟩
def cA (A:Option Addr) (cp:Nat):Chg:=⟨1,5,0,0,A,cp,[vOne,vX],nulV,0,nulV⟩
def rA:PRec:=([vOne,vX],[5,5],0)
theorem v_x:valB vX=true:=by decide +kernel
theorem fixP {k:Int} (hk:k ≠ 0):pb (FixedCol [colP0,colP1] k)=false:=pb_false (fun h=>by
 rcases h with h|⟨x,hx,h⟩
 ·exact hk h
 ·have hx:x=colP0∨x=colP1:=by simpa using hx
  rcases hx with rfl|rfl <;> cases h)
end Go.Proofs.YtjhnpnhpmdkpcaaGreat
