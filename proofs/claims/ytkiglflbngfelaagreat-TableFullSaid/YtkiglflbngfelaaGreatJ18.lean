/-
  Contracts and plain laws of this seat, part 18: Maps, RetE.
-/
import Derived.Maps.OwnSet
import Derived.Maps.OwnOps
import Derived.Maps.Ext
import Derived.Test.YtkiglflbngfelaaGreatJ1
set_option linter.unusedVariables false
set_option linter.unusedSimpArgs false
set_option maxRecDepth 100000
set_option maxHeartbeats 16000000
namespace Go.Proofs.YtkiglflbngfelaaGreat
open Go.RowKit Go
open Go.Maps (Keyed)
theorem plain_inj {P:Program} {e:TypeId} {u v:Value} {d:DataW Unit} {p q:List MemPlace} (hu:plainElem P e u=some (d,p)) (hv:plainElem P e v=some (d,q)):u=v:=by
 cases hP:P.underlying e with
 | none=>simp [plainElem,hP] at hu
 | some td =>
   cases td <;> cases u <;> simp [plainElem,hP] at hu <;> cases v <;> simp [plainElem,hP] at hv
   ·rw [← hv.1] at hu
    simpa using hu.1
   ·obtain ⟨⟨rfl,_⟩,h1,_⟩:=hu
    obtain ⟨⟨rfl,_⟩,h2,_⟩:=hv
    rw [← h2] at h1
    simpa using h1
   ·obtain ⟨_,h1,_⟩:=hu
    obtain ⟨_,h2,_⟩:=hv
    rw [← h2] at h1
    injection h1 with h1
    injection h1 with h1
    exact congrArg Value.string (ByteArray.ext (Array.toList_inj.1 h1))
def MapV (P:Program) (k e:TypeId) (w:World) (b n:Nat) (f:Value→Option Value):Prop :=
 ∃ D:DataW Unit,w.ownsMap P k (plainElem P e) b n D ∧ ∀ x kl,Go.keyOf P k x=some kl →
  (f x=none→Maps.has D kl=false) ∧ ∀ y,f x=some y→Maps.has D kl=true ∧ ∃ d,plainElem P e y=some (d,[]) ∧ ∀ z,D.atKey kl z=d
section
variable {P:Program} {k e t:TypeId} {w:World} {b n:Nat} {f:Value→Option Value}
theorem MapV.made (w:World) (P:Program) (k e:TypeId):MapV P k e (w.alloc (.map #[] 0)) w.heap.size 0 (fun _=>none) :=
 ⟨.map [],World.ownsMap_made w P k _,fun x kl _=>⟨fun _=>rfl,fun y h=>by cases h⟩⟩
theorem MapV.lt (h:MapV P k e w b n f):b<w.heap.size:=by obtain ⟨D,h,_⟩:=h;exact h.lt
theorem MapV.mono (h:MapV P k e w b n f) {m:Nat} (hm:n≤m):MapV P k e w b m f:=by obtain ⟨D,h,h'⟩:=h;exact ⟨D,h.mono hm,h'⟩
theorem MapV.kept {w':World} {row:Option Nat} (h:MapV P k e w b n f) (hg:w.grownBy w' row) (hne:some b≠row):MapV P k e w' b n f:=by obtain ⟨D,h,h'⟩:=h;exact ⟨D,h.kept hg hne,h'⟩
theorem MapV.alloc (h:MapV P k e w b n f) (o:Obj):MapV P k e (w.alloc o) b n f:=by obtain ⟨D,h,h'⟩:=h;exact ⟨D,h.alloc o,h'⟩
theorem MapV.drew (h:MapV P k e w b n f):MapV P k e w.drew b n f:=h
theorem MapV.setCell (h:MapV P k e w b n f) {a:Addr} (ha:b≠a.block) (u:Value):MapV P k e (w.setCell a u) b n f:=by obtain ⟨D,h,h'⟩:=h;exact ⟨D,h.setCell ha u,h'⟩
theorem MapV.below {w':World} {B:Nat} (h:MapV P k e w b n f) (hb:Below B w w') (hB:b<B):MapV P k e w' b n f:=by
 obtain ⟨D,⟨es,clock,hs,F⟩,h'⟩:=h
 exact ⟨D,⟨es,clock,(hb.block b hB).trans hs,F⟩,h'⟩
theorem MapV.eqf (h:MapV P k e w b n f) {g:Value→Option Value} (hg : ∀ x kl,Go.keyOf P k x=some kl→g x=f x):MapV P k e w b n g:=by
 obtain ⟨D,h,h'⟩:=h
 exact ⟨D,h,fun x kl hx=>by rw [hg x kl hx];exact h' x kl hx⟩
theorem MapV.look (h:MapV P k e w b n f) (K:Keyed P k) (ht:P.underlying t=some (.map k e)) {z:Value} (hz:(zeroValue e).run P w = .ok z w) {zd:DataW Unit} (hzd:plainElem P e z=some (zd,[])) {x:Value} {kl:Lit} (hx:Go.keyOf P k x=some kl) :
 (Instr.lookup t (.map (some b)) x false).run P w = .ok ((f x).getD z) w:=by
 obtain ⟨D,h,h'⟩:=h
 obtain ⟨v,ps,hrun,hv⟩:=h.lookup K ht hz hzd hx
 rw [hrun]
 cases hf:f x with
 | none =>
   rw [Maps.atKey_of_not_has ((h' x kl hx).1 hf)] at hv
   rw [plain_inj hv hzd]
   rfl
 | some y =>
   obtain ⟨_,d,hd,hat⟩:=(h' x kl hx).2 y hf
   rw [hat] at hv
   rw [plain_inj hv hd]
   rfl
theorem MapV.look_ok (h:MapV P k e w b n f) (K:Keyed P k) (ht:P.underlying t=some (.map k e)) {z:Value} (hz:(zeroValue e).run P w = .ok z w) {zd:DataW Unit} (hzd:plainElem P e z=some (zd,[])) {x:Value} {kl:Lit} (hx:Go.keyOf P k x=some kl) :
 (Instr.lookup t (.map (some b)) x true).run P w = .ok (.tuple #[(f x).getD z, .bool (f x).isSome]) w:=by
 obtain ⟨D,h,h'⟩:=h
 obtain ⟨v,ps,hrun,hv⟩:=h.look_ok K ht hz hzd hx
 rw [hrun]
 cases hf:f x with
 | none =>
   have hn:=(h' x kl hx).1 hf
   rw [Maps.atKey_of_not_has hn] at hv
   rw [plain_inj hv hzd,hn]
   rfl
 | some y =>
   obtain ⟨hh,d,hd,hat⟩:=(h' x kl hx).2 y hf
   rw [hat] at hv
   rw [plain_inj hv hd,hh]
   rfl
theorem MapV.store (h:MapV P k e w b n f) (K:Keyed P k) (ht:P.underlying t=some (.map k e)) (hn:n<maxLen) {x y:Value} {kl:Lit} (hx:Go.keyOf P k x=some kl) {d:DataW Unit} (hy:plainElem P e y=some (d,[])) :
 ∃ w',(Instr.mapUpdate t (.map (some b)) x y).run P w = .ok () w'∧(∀ f',f' x=some y→(∀ u,u≠x→f' u=f u)→MapV P k e w' b (n + 1) f')∧w.grownBy w' (some b):=by
 obtain ⟨D,h,h'⟩:=h
 obtain ⟨w',hrun,ho,hg⟩:=h.update K ht hn hx hy
 refine ⟨w',hrun,fun f' h1 h2=>⟨_,ho,fun u ul hu => ?_⟩,hg⟩
 have hD:=h.isMap
 have hkl:=K.key hx
 by_cases hux:u=x
 ·subst hux
  rw [hx] at hu
  injection hu with hu
  subst hu
  rw [h1]
  refine ⟨fun h=>(Option.some_ne_none _ h).elim,fun y' hy' => ?_⟩
  injection hy' with hy'
  subst hy'
  exact ⟨Maps.has_put_same hD hkl d,d,hy,fun z=>Maps.atKey_put_same hD hkl d z⟩
 ·have hne:ul≠kl:=fun e=>hux (K.inj hu (by rw [e];exact hx))
  rw [h2 u hux]
  refine ⟨fun hf=>by rw [Maps.has_put_other hne];exact (h' u ul hu).1 hf,fun y' hf => ?_⟩
  obtain ⟨hh,d',hd',hat⟩:=(h' u ul hu).2 y' hf
  exact ⟨by rw [Maps.has_put_other hne];exact hh,d',hd',fun z=>by rw [Maps.atKey_put_other hne];exact hat z⟩
end
/-! ### at the operation, for the walk -/
section
variable {P:Program} (w:World) {ops:Array Oper} {rest:List Oper} {o:Oper} {a:Act} {Q:Exit→Act→World→Prop}
theorem wpList_lookV (hg:o.guard=none) (m x:Operand) (t:TypeId) (hop:o.op=Op.lookup t m x false) (k e:TypeId) (K:Keyed P k) (ht:P.underlying t=some (.map k e)) (z:Value) (hz : ∀ u,(zeroValue e).run P u = .ok z u) (zd:DataW Unit) (hzd:plainElem P e z=some (zd,[]))
 (b n:Nat) (f:Value→Option Value) (hm:a.eval m = .map (some b)) (hown:MapV P k e w b n f) (key:Value) (kl:Lit) (hx:a.eval x=key) (hkey:Go.keyOf P k key=some kl)
 (r:Value) (hr:(f key).getD z=r) (hK:wpList P ops Q rest (a.put o.dst r) w):wpList P ops Q (o::rest) a w:=by
 subst hr
 refine wpList_plain hg fun K' hK' => ?_
 have hrun:=hown.look K ht (hz w) hzd hkey
 unfold Oper.wp
 simp [execOp,hop,hm,hx,hrun,Result.andThen]
 exact hK' _ _ hK
theorem wpList_lookOkV (hg:o.guard=none) (m x:Operand) (t:TypeId) (hop:o.op=Op.lookup t m x true) (k e:TypeId) (K:Keyed P k) (ht:P.underlying t=some (.map k e)) (z:Value) (hz : ∀ u,(zeroValue e).run P u = .ok z u) (zd:DataW Unit) (hzd:plainElem P e z=some (zd,[]))
 (b n:Nat) (f:Value→Option Value) (hm:a.eval m = .map (some b)) (hown:MapV P k e w b n f) (key:Value) (kl:Lit) (hx:a.eval x=key) (hkey:Go.keyOf P k key=some kl)
 (r:Value) (c:Bool) (hr:(f key).getD z=r) (hc:(f key).isSome=c) (hK:wpList P ops Q rest (a.put o.dst (.tuple #[r, .bool c])) w):wpList P ops Q (o::rest) a w:=by
 subst hr hc
 refine wpList_plain hg fun K' hK' => ?_
 have hrun:=hown.look_ok K ht (hz w) hzd hkey
 unfold Oper.wp
 simp [execOp,hop,hm,hx,hrun,Result.andThen]
 exact hK' _ _ hK
theorem wpList_storeV (hg:o.guard=none) (m x v:Operand) (t:TypeId) (hop:o.op=Op.mapUpdate t m x v) (k e:TypeId) (K:Keyed P k) (ht:P.underlying t=some (.map k e))
 (b n:Nat) (f:Value→Option Value) (hm:a.eval m = .map (some b)) (hown:MapV P k e w b n f) (hn:n<maxLen) (key:Value) (kl:Lit) (hx:a.eval x=key) (hkey:Go.keyOf P k key=some kl) (y:Value) (hv:a.eval v=y) (d:DataW Unit) (hy:plainElem P e y=some (d,[]))
 (f':Value→Option Value) (h1:f' key=some y) (h2 : ∀ u,u≠key→f' u=f u)
 (hK : ∀ w',MapV P k e w' b (n + 1) f'→w.grownBy w' (some b)→wpList P ops Q rest (a.put o.dst undef) w'):wpList P ops Q (o::rest) a w:=by
 refine wpList_plain hg fun K' hK' => ?_
 obtain ⟨w',hrun,r1,r2⟩:=hown.store K ht hn hkey hy
 unfold Oper.wp
 simp [execOp,hop,hm,hx,hv,hrun,Result.andThen]
 exact hK' _ _ (hK w' (r1 f' h1 h2) r2)
end
end Go.Proofs.YtkiglflbngfelaaGreat
