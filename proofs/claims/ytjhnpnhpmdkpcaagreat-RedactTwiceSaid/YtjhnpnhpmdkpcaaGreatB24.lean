/-
  Contracts and plain laws of this seat, part 24: RetE, MapH, RetD.
-/
import Derived.Test.YtjhnpnhpmdkpcaaGreatB9
set_option linter.unusedVariables false
set_option linter.unusedSimpArgs false
set_option maxRecDepth 100000
set_option maxHeartbeats 16000000
namespace Go.Proofs.YtjhnpnhpmdkpcaaGreat
open Go.RowKit Go
open Go.Maps (Keyed)
def selfElem (v:Value):Option (DataW Value × List MemPlace):=some (.held v,[])
def MapH (P:Program) (k:TypeId) (w:World) (b n:Nat) (f:Value→Option Value):Prop :=
 ∃ D:DataW Value,w.ownsMap P k selfElem b n D ∧ ∀ x kl,Go.keyOf P k x=some kl →
  (f x=none→Maps.has D kl=false) ∧ ∀ y,f x=some y→Maps.has D kl=true ∧ ∀ z,D.atKey kl z = .held y
section
variable {P:Program} {k e t:TypeId} {w:World} {b n:Nat} {f:Value→Option Value}
theorem MapH.made (w:World) (P:Program) (k:TypeId):MapH P k (w.alloc (.map #[] 0)) w.heap.size 0 (fun _=>none) :=
 ⟨.map [],World.ownsMap_made w P k _,fun x kl _=>⟨fun _=>rfl,fun y h=>by cases h⟩⟩
theorem MapH.lt (h:MapH P k w b n f):b<w.heap.size:=by obtain ⟨D,h,_⟩:=h;exact h.lt
theorem MapH.below {w':World} {B:Nat} (h:MapH P k w b n f) (hb:Below B w w') (hB:b<B):MapH P k w' b n f:=by
 obtain ⟨D,⟨es,clock,hs,F⟩,h'⟩:=h
 exact ⟨D,⟨es,clock,(hb.block b hB).trans hs,F⟩,h'⟩
theorem MapH.eqf (h:MapH P k w b n f) {g:Value→Option Value} (hg : ∀ x kl,Go.keyOf P k x=some kl→g x=f x):MapH P k w b n g:=by
 obtain ⟨D,h,h'⟩:=h
 exact ⟨D,h,fun x kl hx=>by rw [hg x kl hx];exact h' x kl hx⟩
theorem self_inj {v y:Value} {ps:List MemPlace} (h:selfElem v=some (.held y,ps)):v=y:=by
 unfold selfElem at h
 injection h with h
 injection h with h _
 injection h
theorem MapH.look (h:MapH P k w b n f) (K:Keyed P k) (ht:P.underlying t=some (.map k e)) {z:Value} (hz:(zeroValue e).run P w = .ok z w) {x:Value} {kl:Lit} (hx:Go.keyOf P k x=some kl) :
 (Instr.lookup t (.map (some b)) x false).run P w = .ok ((f x).getD z) w:=by
 obtain ⟨D,h,h'⟩:=h
 obtain ⟨v,ps,hrun,hv⟩:=h.lookup K ht hz (zd := .held z) (zp := []) rfl hx
 rw [hrun]
 cases hf:f x with
 | none =>
   rw [Maps.atKey_of_not_has ((h' x kl hx).1 hf)] at hv
   rw [self_inj hv]
   rfl
 | some y =>
   obtain ⟨_,hat⟩:=(h' x kl hx).2 y hf
   rw [hat] at hv
   rw [self_inj hv]
   rfl
theorem MapH.store (h:MapH P k w b n f) (K:Keyed P k) (ht:P.underlying t=some (.map k e)) (hn:n<maxLen) {x y:Value} {kl:Lit} (hx:Go.keyOf P k x=some kl) :
 ∃ w',(Instr.mapUpdate t (.map (some b)) x y).run P w = .ok () w'∧(∀ f',f' x=some y→(∀ u,u≠x→f' u=f u)→MapH P k w' b (n + 1) f')∧w.grownBy w' (some b):=by
 obtain ⟨D,h,h'⟩:=h
 obtain ⟨w',hrun,ho,hg⟩:=h.update K ht hn hx (val:=y) (d := .held y) (ps := []) rfl
 refine ⟨w',hrun,fun f' h1 h2=>⟨_,ho,fun u ul hu => ?_⟩,hg⟩
 have hD:=h.isMap
 have hkl:=K.key hx
 by_cases hux:u=x
 ·subst hux
  rw [hx] at hu
  injection hu with hu
  subst hu
  rw [h1]
  refine ⟨fun h=>(Option.some_ne_none _ h).elim,fun y' hy' => ?_⟩
  injection hy' with hy'
  subst hy'
  exact ⟨Maps.has_put_same hD hkl _,fun z=>Maps.atKey_put_same hD hkl _ z⟩
 ·have hne:ul≠kl:=fun e=>hux (K.inj hu (by rw [e];exact hx))
  rw [h2 u hux]
  refine ⟨fun hf=>by rw [Maps.has_put_other hne];exact (h' u ul hu).1 hf,fun y' hf => ?_⟩
  obtain ⟨hh,hat⟩:=(h' u ul hu).2 y' hf
  exact ⟨by rw [Maps.has_put_other hne];exact hh,fun z=>by rw [Maps.atKey_put_other hne];exact hat z⟩
end
section
variable {P:Program} (w:World) {ops:Array Oper} {rest:List Oper} {o:Oper} {a:Act} {Q:Exit→Act→World→Prop}
theorem wpList_storeH (hg:o.guard=none) (m x v:Operand) (t:TypeId) (hop:o.op=Op.mapUpdate t m x v) (k e:TypeId) (K:Keyed P k) (ht:P.underlying t=some (.map k e))
 (b n:Nat) (f:Value→Option Value) (hm:a.eval m = .map (some b)) (hown:MapH P k w b n f) (hn:n<maxLen) (key:Value) (kl:Lit) (hx:a.eval x=key) (hkey:Go.keyOf P k key=some kl) (y:Value) (hv:a.eval v=y)
 (f':Value→Option Value) (h1:f' key=some y) (h2 : ∀ u,u≠key→f' u=f u)
 (hK : ∀ w',MapH P k w' b (n + 1) f'→w.grownBy w' (some b)→wpList P ops Q rest (a.put o.dst undef) w'):wpList P ops Q (o::rest) a w:=by
 refine wpList_plain hg fun K' hK' => ?_
 obtain ⟨w',hrun,r1,r2⟩:=hown.store K ht hn hkey (y:=y)
 unfold Oper.wp
 simp [execOp,hop,hm,hx,hv,hrun,Result.andThen]
 exact hK' _ _ (hK w' (r1 f' h1 h2) r2)
end
end Go.Proofs.YtjhnpnhpmdkpcaaGreat
