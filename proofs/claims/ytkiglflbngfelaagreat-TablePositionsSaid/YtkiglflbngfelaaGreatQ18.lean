/-
  Contracts and plain laws of this seat, part 18: Maps, RetE, MapH, RetD.
-/
import Derived.Maps.OwnSet
import Derived.Maps.OwnOps
import Derived.Maps.Ext
import Derived.Test.YtkiglflbngfelaaGreatQ1
import Derived.Test.YtkiglflbngfelaaGreatQ4
import Derived.Test.YtkiglflbngfelaaGreatQ3
import Derived.Test.YtkiglflbngfelaaGreatQ11
set_option linter.unusedVariables false
set_option linter.unusedSimpArgs false
set_option maxRecDepth 100000
set_option maxHeartbeats 16000000
namespace Go.Proofs.YtkiglflbngfelaaGreat
open Go.RowKit Go
open Go.Maps (Keyed)
theorem qJ {P:Program} {e:TypeId} {u v:Value} {d:DataW Unit} {p q:List MemPlace} (hu:plainElem P e u=some (d,p)) (hv:plainElem P e v=some (d,q)):u=v:=by
 cases hP:P.underlying e with
 | none=>simp [plainElem,hP] at hu
 | some td =>
   cases td <;> cases u <;> simp [plainElem,hP] at hu <;> cases v <;> simp [plainElem,hP] at hv
   ·rw [← hv.1] at hu
    simpa using hu.1
   ·obtain ⟨⟨rfl,_⟩,h1,_⟩:=hu
    obtain ⟨⟨rfl,_⟩,h2,_⟩:=hv
    rw [← h2] at h1
    simpa using h1
   ·obtain ⟨_,h1,_⟩:=hu
    obtain ⟨_,h2,_⟩:=hv
    rw [← h2] at h1
    injection h1 with h1
    injection h1 with h1
    exact congrArg Value.string (ByteArray.ext (Array.toList_inj.1 h1))
def cB (P:Program) (k e:TypeId) (w:World) (b n:Nat) (f:Value→Option Value):Prop :=
 ∃ D:DataW Unit,w.ownsMap P k (plainElem P e) b n D ∧ ∀ x kl,Go.keyOf P k x=some kl →
  (f x=none→Maps.has D kl=false) ∧ ∀ y,f x=some y→Maps.has D kl=true ∧ ∃ d,plainElem P e y=some (d,[]) ∧ ∀ z,D.atKey kl z=d
section
variable {P:Program} {k e t:TypeId} {w:World} {b n:Nat} {f:Value→Option Value}
theorem cB.made (w:World) (P:Program) (k e:TypeId):cB P k e (w.alloc (.map #[] 0)) w.heap.size 0 (fun _=>none) :=
 ⟨.map [],World.ownsMap_made w P k _,fun x kl _=>⟨fun _=>rfl,fun y h=>by cases h⟩⟩
theorem cB.lt (h:cB P k e w b n f):b<w.heap.size:=by obtain ⟨D,h,_⟩:=h;exact h.lt
theorem cB.mono (h:cB P k e w b n f) {m:Nat} (hm:n≤m):cB P k e w b m f:=by obtain ⟨D,h,h'⟩:=h;exact ⟨D,h.mono hm,h'⟩
theorem cB.kept {w':World} {row:Option Nat} (h:cB P k e w b n f) (hg:w.grownBy w' row) (hne:some b≠row):cB P k e w' b n f:=by obtain ⟨D,h,h'⟩:=h;exact ⟨D,h.kept hg hne,h'⟩
theorem cB.alloc (h:cB P k e w b n f) (o:Obj):cB P k e (w.alloc o) b n f:=by obtain ⟨D,h,h'⟩:=h;exact ⟨D,h.alloc o,h'⟩
theorem cB.drew (h:cB P k e w b n f):cB P k e w.drew b n f:=h
theorem cB.setCell (h:cB P k e w b n f) {a:Addr} (ha:b≠a.block) (u:Value):cB P k e (w.setCell a u) b n f:=by obtain ⟨D,h,h'⟩:=h;exact ⟨D,h.setCell ha u,h'⟩
theorem cB.below {w':World} {B:Nat} (h:cB P k e w b n f) (hb:Below B w w') (hB:b<B):cB P k e w' b n f:=by
 obtain ⟨D,⟨es,clock,hs,F⟩,h'⟩:=h
 exact ⟨D,⟨es,clock,(hb.block b hB).trans hs,F⟩,h'⟩
theorem cB.eqf (h:cB P k e w b n f) {g:Value→Option Value} (hg : ∀ x kl,Go.keyOf P k x=some kl→g x=f x):cB P k e w b n g:=by
 obtain ⟨D,h,h'⟩:=h
 exact ⟨D,h,fun x kl hx=>by rw [hg x kl hx];exact h' x kl hx⟩
theorem cB.look (h:cB P k e w b n f) (K:Keyed P k) (ht:P.underlying t=some (.map k e)) {z:Value} (hz:(zeroValue e).run P w = .ok z w) {zd:DataW Unit} (hzd:plainElem P e z=some (zd,[])) {x:Value} {kl:Lit} (hx:Go.keyOf P k x=some kl) :
 (Instr.lookup t (.map (some b)) x false).run P w = .ok ((f x).getD z) w:=by
 obtain ⟨D,h,h'⟩:=h
 obtain ⟨v,ps,hrun,hv⟩:=h.lookup K ht hz hzd hx
 rw [hrun]
 cases hf:f x with
 | none =>
   rw [Maps.atKey_of_not_has ((h' x kl hx).1 hf)] at hv
   rw [qJ hv hzd]
   rfl
 | some y =>
   obtain ⟨_,d,hd,hat⟩:=(h' x kl hx).2 y hf
   rw [hat] at hv
   rw [qJ hv hd]
   rfl
theorem cB.look_ok (h:cB P k e w b n f) (K:Keyed P k) (ht:P.underlying t=some (.map k e)) {z:Value} (hz:(zeroValue e).run P w = .ok z w) {zd:DataW Unit} (hzd:plainElem P e z=some (zd,[])) {x:Value} {kl:Lit} (hx:Go.keyOf P k x=some kl) :
 (Instr.lookup t (.map (some b)) x true).run P w = .ok (.tuple #[(f x).getD z, .bool (f x).isSome]) w:=by
 obtain ⟨D,h,h'⟩:=h
 obtain ⟨v,ps,hrun,hv⟩:=h.look_ok K ht hz hzd hx
 rw [hrun]
 cases hf:f x with
 | none =>
   have hn:=(h' x kl hx).1 hf
   rw [Maps.atKey_of_not_has hn] at hv
   rw [qJ hv hzd,hn]
   rfl
 | some y =>
   obtain ⟨hh,d,hd,hat⟩:=(h' x kl hx).2 y hf
   rw [hat] at hv
   rw [qJ hv hd,hh]
   rfl
theorem cB.store (h:cB P k e w b n f) (K:Keyed P k) (ht:P.underlying t=some (.map k e)) (hn:n<maxLen) {x y:Value} {kl:Lit} (hx:Go.keyOf P k x=some kl) {d:DataW Unit} (hy:plainElem P e y=some (d,[])) :
 ∃ w',(Instr.mapUpdate t (.map (some b)) x y).run P w = .ok () w'∧(∀ f',f' x=some y→(∀ u,u≠x→f' u=f u)→cB P k e w' b (n + 1) f')∧w.grownBy w' (some b):=by
 obtain ⟨D,h,h'⟩:=h
 obtain ⟨w',hrun,ho,hg⟩:=h.update K ht hn hx hy
 refine ⟨w',hrun,fun f' h1 h2=>⟨_,ho,fun u ul hu => ?_⟩,hg⟩
 have hD:=h.isMap
 have hkl:=K.key hx
 by_cases hux:u=x
 ·subst hux
  rw [hx] at hu
  injection hu with hu
  subst hu
  rw [h1]
  refine ⟨fun h=>(Option.some_ne_none _ h).elim,fun y' hy' => ?_⟩
  injection hy' with hy'
  subst hy'
  exact ⟨Maps.has_put_same hD hkl d,d,hy,fun z=>Maps.atKey_put_same hD hkl d z⟩
 ·have hne:ul≠kl:=fun e=>hux (K.inj hu (by rw [e];exact hx))
  rw [h2 u hux]
  refine ⟨fun hf=>by rw [Maps.has_put_other hne];exact (h' u ul hu).1 hf,fun y' hf => ?_⟩
  obtain ⟨hh,d',hd',hat⟩:=(h' u ul hu).2 y' hf
  exact ⟨by rw [Maps.has_put_other hne];exact hh,d',hd',fun z=>by rw [Maps.atKey_put_other hne];exact hat z⟩
end
/-! ### at the operation, for the walk -/
section
variable {P:Program} (w:World) {ops:Array Oper} {rest:List Oper} {o:Oper} {a:Act} {Q:Exit→Act→World→Prop}
theorem Bj (hg:o.guard=none) (m x:Operand) (t:TypeId) (hop:o.op=Op.lookup t m x false) (k e:TypeId) (K:Keyed P k) (ht:P.underlying t=some (.map k e)) (z:Value) (hz : ∀ u,(zeroValue e).run P u = .ok z u) (zd:DataW Unit) (hzd:plainElem P e z=some (zd,[]))
 (b n:Nat) (f:Value→Option Value) (hm:a.eval m = .map (some b)) (hown:cB P k e w b n f) (key:Value) (kl:Lit) (hx:a.eval x=key) (hkey:Go.keyOf P k key=some kl)
 (r:Value) (hr:(f key).getD z=r) (hK:wpList P ops Q rest (a.put o.dst r) w):wpList P ops Q (o::rest) a w:=by
 subst hr
 refine wpList_plain hg fun K' hK' => ?_
 have hrun:=hown.look K ht (hz w) hzd hkey
 unfold Oper.wp
 simp [execOp,hop,hm,hx,hrun,Result.andThen]
 exact hK' _ _ hK
theorem pU (hg:o.guard=none) (m x:Operand) (t:TypeId) (hop:o.op=Op.lookup t m x true) (k e:TypeId) (K:Keyed P k) (ht:P.underlying t=some (.map k e)) (z:Value) (hz : ∀ u,(zeroValue e).run P u = .ok z u) (zd:DataW Unit) (hzd:plainElem P e z=some (zd,[]))
 (b n:Nat) (f:Value→Option Value) (hm:a.eval m = .map (some b)) (hown:cB P k e w b n f) (key:Value) (kl:Lit) (hx:a.eval x=key) (hkey:Go.keyOf P k key=some kl)
 (r:Value) (c:Bool) (hr:(f key).getD z=r) (hc:(f key).isSome=c) (hK:wpList P ops Q rest (a.put o.dst (.tuple #[r, .bool c])) w):wpList P ops Q (o::rest) a w:=by
 subst hr hc
 refine wpList_plain hg fun K' hK' => ?_
 have hrun:=hown.look_ok K ht (hz w) hzd hkey
 unfold Oper.wp
 simp [execOp,hop,hm,hx,hrun,Result.andThen]
 exact hK' _ _ hK
theorem ng (hg:o.guard=none) (m x v:Operand) (t:TypeId) (hop:o.op=Op.mapUpdate t m x v) (k e:TypeId) (K:Keyed P k) (ht:P.underlying t=some (.map k e))
 (b n:Nat) (f:Value→Option Value) (hm:a.eval m = .map (some b)) (hown:cB P k e w b n f) (hn:n<maxLen) (key:Value) (kl:Lit) (hx:a.eval x=key) (hkey:Go.keyOf P k key=some kl) (y:Value) (hv:a.eval v=y) (d:DataW Unit) (hy:plainElem P e y=some (d,[]))
 (f':Value→Option Value) (h1:f' key=some y) (h2 : ∀ u,u≠key→f' u=f u)
 (hK : ∀ w',cB P k e w' b (n + 1) f'→w.grownBy w' (some b)→wpList P ops Q rest (a.put o.dst undef) w'):wpList P ops Q (o::rest) a w:=by
 refine wpList_plain hg fun K' hK' => ?_
 obtain ⟨w',hrun,r1,r2⟩:=hown.store K ht hn hkey hy
 unfold Oper.wp
 simp [execOp,hop,hm,hx,hv,hrun,Result.andThen]
 exact hK' _ _ (hK w' (r1 f' h1 h2) r2)
end
def jJ (ts:List Tab) (x:aD):Int :=
 if 0≤x.table ∧ 0≤x.day∧x.day ≤ 1048576 then
  match ts[x.table.toNat]? with
  | some t=>if 0≤x.col then match t.ae[x.col.toNat]? with
    | some c=>if c.fe = 0 then 0 else x.day+c.fe
    | none => 0
    else 0
  | none => 0
 else 0
def gH (u day:Int):Bool:=(u != 0)&&decide (day<u)
def uk (ts:List Tab) (o:List aD) (day:Int) (s:Src):Bool:=o.any fun x=>(x.last&&gH (jJ ts x) day)&&((x.table==s.tab)&&(x.record==s.seq))
def gL (i:Nat) (r:Rcd):Src:=⟨(i:Int),bJ r⟩
def rf (ts:List Tab) (o:List aD) (day:Int) (i:Nat) (ret:Int) (recs:List Rcd):List Src:=(recs.filter fun r=>decide (r.day+ret≤day) && !uk ts o day (gL i r)).map (gL i)
def qa (ts:List Tab) (i:Nat):Int:=match ts[i]? with
 | some t=>t.iI
 | none => 0
def qj (rt:List RTab) (i:Nat):List Rcd:=match rt[i]? with
 | some t=>t.recs
 | none => []
def uB (ts:List Tab) (rt:List RTab) (o:List aD) (day:Int) (i:Nat):List Src:=if qa ts i = 0 then [] else rf ts o day i (qa ts i) (qj rt i)
def expE (ts:List Tab) (rt:List RTab) (o:List aD) (day:Int):Nat→List Src
 | 0 => []
 | n + 1=>expE ts rt o day n++uB ts rt o day n
theorem xV {ts:List Tab} {rt:List RTab} {o:List aD} {day:Int} {s:Src} : ∀ {n:Nat},s∈expE ts rt o day n ↔ ∃ i,i<n∧s∈uB ts rt o day i
 | 0=>by simp [expE]
 | n + 1=>by
   rw [expE,List.mem_append,xV]
   constructor
   ·rintro (⟨i,h1,h2⟩|h)
    ·exact ⟨i,by omega,h2⟩
    ·exact ⟨n,by omega,h⟩
   ·rintro ⟨i,h1,h2⟩
    rcases Nat.lt_or_ge i n with h|h
    ·exact .inl ⟨i,h,h2⟩
    ·obtain rfl:i=n:=by omega
     exact .inr h2
theorem AA {ts:List Tab} {rt:List RTab} {o:List aD} {day:Int} {i:Nat} {s:Src}:s∈uB ts rt o day i↔qa ts i ≠ 0 ∧ ∃ r,r∈qj rt i∧r.day+qa ts i≤day∧uk ts o day (gL i r)=false∧gL i r=s:=by
 unfold uB
 split
 ·rename_i h
  simp [h]
 ·rename_i h
  simp only [rf,List.mem_map,List.mem_filter,Bool.and_eq_true,decide_eq_true_eq,Bool.not_eq_true']
  constructor
  ·rintro ⟨r,⟨h1,h2,h3⟩,h4⟩
   exact ⟨h,r,h1,h2,h3,h4⟩
  ·rintro ⟨_,r,h1,h2,h3,h4⟩
   exact ⟨r,⟨h1,h2,h3⟩,h4⟩
open Go.RowKit Go
open Go.Maps (Keyed)
def xK (v:Value):Option (DataW Value × List MemPlace):=some (.held v,[])
def fQ (P:Program) (k:TypeId) (w:World) (b n:Nat) (f:Value→Option Value):Prop :=
 ∃ D:DataW Value,w.ownsMap P k xK b n D ∧ ∀ x kl,Go.keyOf P k x=some kl →
  (f x=none→Maps.has D kl=false) ∧ ∀ y,f x=some y→Maps.has D kl=true ∧ ∀ z,D.atKey kl z = .held y
section
variable {P:Program} {k e t:TypeId} {w:World} {b n:Nat} {f:Value→Option Value}
theorem fQ.made (w:World) (P:Program) (k:TypeId):fQ P k (w.alloc (.map #[] 0)) w.heap.size 0 (fun _=>none) :=
 ⟨.map [],World.ownsMap_made w P k _,fun x kl _=>⟨fun _=>rfl,fun y h=>by cases h⟩⟩
theorem fQ.lt (h:fQ P k w b n f):b<w.heap.size:=by obtain ⟨D,h,_⟩:=h;exact h.lt
theorem fQ.mono (h:fQ P k w b n f) {m:Nat} (hm:n≤m):fQ P k w b m f:=by obtain ⟨D,h,h'⟩:=h;exact ⟨D,h.mono hm,h'⟩
theorem fQ.kept {w':World} {row:Option Nat} (h:fQ P k w b n f) (hg:w.grownBy w' row) (hne:some b≠row):fQ P k w' b n f:=by obtain ⟨D,h,h'⟩:=h;exact ⟨D,h.kept hg hne,h'⟩
theorem fQ.alloc (h:fQ P k w b n f) (o:Obj):fQ P k (w.alloc o) b n f:=by obtain ⟨D,h,h'⟩:=h;exact ⟨D,h.alloc o,h'⟩
theorem fQ.drew (h:fQ P k w b n f):fQ P k w.drew b n f:=h
theorem fQ.below {w':World} {B:Nat} (h:fQ P k w b n f) (hb:Below B w w') (hB:b<B):fQ P k w' b n f:=by
 obtain ⟨D,⟨es,clock,hs,F⟩,h'⟩:=h
 exact ⟨D,⟨es,clock,(hb.block b hB).trans hs,F⟩,h'⟩
theorem fQ.eqf (h:fQ P k w b n f) {g:Value→Option Value} (hg : ∀ x kl,Go.keyOf P k x=some kl→g x=f x):fQ P k w b n g:=by
 obtain ⟨D,h,h'⟩:=h
 exact ⟨D,h,fun x kl hx=>by rw [hg x kl hx];exact h' x kl hx⟩
theorem Dv {v y:Value} {ps:List MemPlace} (h:xK v=some (.held y,ps)):v=y:=by
 unfold xK at h
 injection h with h
 injection h with h _
 injection h
theorem fQ.look (h:fQ P k w b n f) (K:Keyed P k) (ht:P.underlying t=some (.map k e)) {z:Value} (hz:(zeroValue e).run P w = .ok z w) {x:Value} {kl:Lit} (hx:Go.keyOf P k x=some kl) :
 (Instr.lookup t (.map (some b)) x false).run P w = .ok ((f x).getD z) w:=by
 obtain ⟨D,h,h'⟩:=h
 obtain ⟨v,ps,hrun,hv⟩:=h.lookup K ht hz (zd := .held z) (zp := []) rfl hx
 rw [hrun]
 cases hf:f x with
 | none =>
   rw [Maps.atKey_of_not_has ((h' x kl hx).1 hf)] at hv
   rw [Dv hv]
   rfl
 | some y =>
   obtain ⟨_,hat⟩:=(h' x kl hx).2 y hf
   rw [hat] at hv
   rw [Dv hv]
   rfl
theorem fQ.store (h:fQ P k w b n f) (K:Keyed P k) (ht:P.underlying t=some (.map k e)) (hn:n<maxLen) {x y:Value} {kl:Lit} (hx:Go.keyOf P k x=some kl) :
 ∃ w',(Instr.mapUpdate t (.map (some b)) x y).run P w = .ok () w'∧(∀ f',f' x=some y→(∀ u,u≠x→f' u=f u)→fQ P k w' b (n + 1) f')∧w.grownBy w' (some b):=by
 obtain ⟨D,h,h'⟩:=h
 obtain ⟨w',hrun,ho,hg⟩:=h.update K ht hn hx (val:=y) (d := .held y) (ps := []) rfl
 refine ⟨w',hrun,fun f' h1 h2=>⟨_,ho,fun u ul hu => ?_⟩,hg⟩
 have hD:=h.isMap
 have hkl:=K.key hx
 by_cases hux:u=x
 ·subst hux
  rw [hx] at hu
  injection hu with hu
  subst hu
  rw [h1]
  refine ⟨fun h=>(Option.some_ne_none _ h).elim,fun y' hy' => ?_⟩
  injection hy' with hy'
  subst hy'
  exact ⟨Maps.has_put_same hD hkl _,fun z=>Maps.atKey_put_same hD hkl _ z⟩
 ·have hne:ul≠kl:=fun e=>hux (K.inj hu (by rw [e];exact hx))
  rw [h2 u hux]
  refine ⟨fun hf=>by rw [Maps.has_put_other hne];exact (h' u ul hu).1 hf,fun y' hf => ?_⟩
  obtain ⟨hh,hat⟩:=(h' u ul hu).2 y' hf
  exact ⟨by rw [Maps.has_put_other hne];exact hh,fun z=>by rw [Maps.atKey_put_other hne];exact hat z⟩
end
section
variable {P:Program} (w:World) {ops:Array Oper} {rest:List Oper} {o:Oper} {a:Act} {Q:Exit→Act→World→Prop}
theorem zq (hg:o.guard=none) (m x v:Operand) (t:TypeId) (hop:o.op=Op.mapUpdate t m x v) (k e:TypeId) (K:Keyed P k) (ht:P.underlying t=some (.map k e))
 (b n:Nat) (f:Value→Option Value) (hm:a.eval m = .map (some b)) (hown:fQ P k w b n f) (hn:n<maxLen) (key:Value) (kl:Lit) (hx:a.eval x=key) (hkey:Go.keyOf P k key=some kl) (y:Value) (hv:a.eval v=y)
 (f':Value→Option Value) (h1:f' key=some y) (h2 : ∀ u,u≠key→f' u=f u)
 (hK : ∀ w',fQ P k w' b (n + 1) f'→w.grownBy w' (some b)→wpList P ops Q rest (a.put o.dst undef) w'):wpList P ops Q (o::rest) a w:=by
 refine wpList_plain hg fun K' hK' => ?_
 obtain ⟨w',hrun,r1,r2⟩:=hown.store K ht hn hkey (y:=y)
 unfold Oper.wp
 simp [execOp,hop,hm,hx,hv,hrun,Result.andThen]
 exact hK' _ _ (hK w' (r1 f' h1 h2) r2)
end
def cz (rt:List RTab):Nat→List Src
 | 0 => []
 | n + 1=>cz rt n++(qj rt n).map (gL n)
theorem iC {rt:List RTab} {i:Nat} (h:i<rt.length):qj rt i=rt[i].recs:=by
 unfold qj
 rw [List.getElem?_eq_getElem h]
noncomputable def CP (rt:List RTab) (gone:List Src):List Src:=(cz rt rt.length).filter fun s=>decide (s∈gone)
def keyS (rt:List RTab) (s:Src):Val:=match (qj rt s.tab.toNat).find? (fun r=>bJ r==s.seq) with
 | some r=>dB r
 | none=>⟨0,0,⟨#[]⟩⟩
def yT (rt:List RTab) (seq day:Int) (i:Nat) (s:Src):Chg:=⟨3,seq+i,day,s.tab,none,0,[],keyS rt s,0,⟨0,0,⟨#[]⟩⟩⟩
def rq (rt:List RTab) (seq day:Int) (l:List Src):List Chg:=l.mapIdx (yT rt seq day)
theorem EI (rt:List RTab) (seq day:Int) (l:List Src):(rq rt seq day l).length=l.length:=by simp [rq]
theorem JL (rt:List RTab) (seq day:Int) {l:List Src} {i:Nat} (h:i<l.length):rq rt seq day (l.take (i + 1))=rq rt seq day (l.take i) ++ [yT rt seq day i l[i]]:=by
 unfold rq
 rw [List.take_succ_eq_append_getElem h,List.mapIdx_append]
 simp [Nat.min_eq_left (Nat.le_of_lt h)]
structure zo (ts:List Tab) (rt:List RTab) (gone:List Src) (seq day:Int):Prop where
 tabs:aO ts rt
 U6 : 0≤day∧day ≤ 1048576
 SF : 1≤seq∧seq ≤ 1073741824
 fit:seq+(CP rt gone).length ≤ 1073741825
end Go.Proofs.YtkiglflbngfelaaGreat
