/-
  Contracts and plain laws of this seat, part 83.
-/
import Derived.Test.YtjidligipoldeaaGreatT2
import Derived.OwnWalkIn
import Derived.Shelf.RegionOpen
set_option linter.unusedVariables false
set_option linter.unusedSimpArgs false
set_option maxRecDepth 100000
set_option maxHeartbeats 16000000
namespace Go.Proofs.YtjidligipoldeaaGreat
open Go.RowKit Go Go.Shelf
def setL(f:Nat→Value):List Nat→Array Value→Array Value
 | [],t=>t
 | i::l,t=>setL f l (t.setIfInBounds i (f i))
theorem gX{P:Program}{c:Code}{Q:Exit→Act→World→Prop}{t0:Array Value}{d0:List Deferred}{w:World}(e0:Exit)(L:List Nat)(R:(Nat→Value)→World→Prop)
 (h:c.wp P (fun e a' w'=>e=e0 ∧ ∃f,a'.tmps=setL f L t0∧a'.defers=d0∧R f w') { tmps:=t0,defers:=d0 } w) (k:∀f w',R f w'→Q e0 { tmps:=setL f L t0,defers:=d0 } w'):c.wp P Q { tmps:=t0,defers:=d0 } w:=
 wp_mono h fun e a' w' ⟨he,f,h1,h2,h3⟩=>by
  subst he
  obtain⟨t,d⟩:=a'
  simp only at h1 h2
  subst h1 h2
  exact k f w' h3
theorem bD{L:List Nat}{t0 t:Array Value}{P:(Nat→Value)→Prop}(h:setL (fun i=>t.getD i undef) L t0=t)(hP:P (fun i=>t.getD i undef)):∃f,t=setL f L t0∧P f:=⟨_,h.symm,hP⟩
theorem Pv{F:Fence}{n:Nat}{P:Program}{c:Code}{Q:Exit→Act→World→Prop}{t:Array Value}{d:List Deferred}{w:World}(h:∀T D,T=t→D=d→c.wpIn F n P Q { tmps:=T,defers:=D } w):c.wpIn F n P Q { tmps:=t,defers:=d } w:=h t d rfl rfl
theorem oZ{F:Fence}{nF:Nat}{P:Program}{α:Type}{ops:Array Oper}{rest:List Oper}{o:Oper}{a:Act}{Q:Exit→Act→World→Prop}(w:World)(hgd:o.guard=none)(s x:Operand)(t:TypeId)(ho:o.op=.call { callee:= .builtin .append,args:= #[s,x],argTypes:= #[t,t] })
 (e:TypeId) (i:TypeInfo) (z:Value) (enc:α→List Value) (k bytes:Nat) (ht:P.underlying t=some (.slice e)) (hi:P.info? e=some i) (hz:i.zero=some z)
 (hsize:i.size=k) (hby:i.bytes=bytes) (hzs:z.cells.size=k) (hsz:0<k) (hk:∀x,(enc x).length=k) (h1:∀x,∀u∈enc x,u.oneCell'=true)
 (base:Nat) (v:Value) (l:List α) (hs:a.eval s=v) (hown:aj w base e enc k v l) (A:Option Addr) (m c:Nat) (l':List α) (hx:a.eval x=.slice A m c) (hm:m=l'.length) (hr:ag w w.heap.size enc k A l')
 (hlen:(l.length+l'.length)*bytes≤140737488355328) (h63:l.length+l'.length≤maxLen) (hbase:base≤w.heap.size)
 (h:∀v' w',aj w' base e enc k v' (l++l')→w.grownBy w' v.ownBlock→(v'.ownBlock=v.ownBlock∨v'.ownBlock=some w.heap.size)→wpListIn F nF P ops Q rest (a.put o.dst v') w'):wpListIn F nF P ops Q (o::rest) a w:=by
 refine wpListIn_plain hgd fun K hK' =>?_
 obtain⟨v',w',hrun,h2,h3,h4⟩:=kD (P:=P) w t o.type e i z enc k bytes ht hi hz hsize hby hzs hsz hk h1 base v l hown A m c l' hm hr hlen h63 hbase
 unfold Oper.wpIn
 refine⟨by simp[Oper.about,ho,resolve,Target.leads,Sem.run_pure],?_⟩
 rw[Oper.semAt_plain F _ _ (by rw[ho];intro c hc';cases hc')]
 simp[execOp,ho,resolve,invoke,builtin,hs,hx,hrun,Result.andThen]
 exact hK' _ _ (h v' w' h2 h3 h4)
theorem yH{w w':World}{g:Nat}(h:w.grownBy w' (some g))(i:Nat)(u:Value):w.grownBy (w'.setCell ⟨g,i,none⟩ u) (some g):=
 au h ⟨rfl,rfl,rfl,by simp,fun k _ hk=>Below.heap_setCell _ _ _ k (fun e=>hk (by rw[e]))⟩
end Go.Proofs.YtjidligipoldeaaGreat
