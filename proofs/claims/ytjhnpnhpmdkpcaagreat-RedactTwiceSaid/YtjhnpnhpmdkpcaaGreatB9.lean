/-
  Contracts and plain laws of this seat, part 9: Maps, PCat1, PCat2, PCat3, PCat4, PCat5, PCat6, PCat7.
-/
import Derived.Maps.OwnSet
import Derived.Maps.OwnOps
import Derived.Maps.Ext
import Derived.Test.YtjhnpnhpmdkpcaaGreatB1
import Derived.Test.YtjhnpnhpmdkpcaaGreatB6
import Derived.Test.YtjhnpnhpmdkpcaaGreatB7
import Derived.Test.YtjhnpnhpmdkpcaaGreatB2
import Derived.Deep.RegionHeld3
import Derived.Test.YtjhnpnhpmdkpcaaGreatB3
import Derived.Laws.EntriesVeiled
set_option linter.unusedVariables false
set_option linter.unusedSimpArgs false
set_option maxRecDepth 100000
set_option maxHeartbeats 16000000
namespace Go.Proofs.YtjhnpnhpmdkpcaaGreat
open Go.RowKit Go
open Go.Maps (Keyed)
theorem plain_inj {P:Program} {e:TypeId} {u v:Value} {d:DataW Unit} {p q:List MemPlace} (hu:plainElem P e u=some (d,p)) (hv:plainElem P e v=some (d,q)):u=v:=by
 cases hP:P.underlying e with
 | none=>simp [plainElem,hP] at hu
 | some td =>
   cases td <;> cases u <;> simp [plainElem,hP] at hu <;> cases v <;> simp [plainElem,hP] at hv
   ·rw [← hv.1] at hu
    simpa using hu.1
   ·obtain ⟨⟨rfl,_⟩,h1,_⟩:=hu
    obtain ⟨⟨rfl,_⟩,h2,_⟩:=hv
    rw [← h2] at h1
    simpa using h1
   ·obtain ⟨_,h1,_⟩:=hu
    obtain ⟨_,h2,_⟩:=hv
    rw [← h2] at h1
    injection h1 with h1
    injection h1 with h1
    exact congrArg Value.string (ByteArray.ext (Array.toList_inj.1 h1))
def MapV (P:Program) (k e:TypeId) (w:World) (b n:Nat) (f:Value→Option Value):Prop :=
 ∃ D:DataW Unit,w.ownsMap P k (plainElem P e) b n D ∧ ∀ x kl,Go.keyOf P k x=some kl →
  (f x=none→Maps.has D kl=false) ∧ ∀ y,f x=some y→Maps.has D kl=true ∧ ∃ d,plainElem P e y=some (d,[]) ∧ ∀ z,D.atKey kl z=d
section
variable {P:Program} {k e t:TypeId} {w:World} {b n:Nat} {f:Value→Option Value}
theorem MapV.made (w:World) (P:Program) (k e:TypeId):MapV P k e (w.alloc (.map #[] 0)) w.heap.size 0 (fun _=>none) :=
 ⟨.map [],World.ownsMap_made w P k _,fun x kl _=>⟨fun _=>rfl,fun y h=>by cases h⟩⟩
theorem MapV.lt (h:MapV P k e w b n f):b<w.heap.size:=by obtain ⟨D,h,_⟩:=h;exact h.lt
theorem MapV.kept {w':World} {row:Option Nat} (h:MapV P k e w b n f) (hg:w.grownBy w' row) (hne:some b≠row):MapV P k e w' b n f:=by obtain ⟨D,h,h'⟩:=h;exact ⟨D,h.kept hg hne,h'⟩
theorem MapV.alloc (h:MapV P k e w b n f) (o:Obj):MapV P k e (w.alloc o) b n f:=by obtain ⟨D,h,h'⟩:=h;exact ⟨D,h.alloc o,h'⟩
theorem MapV.drew (h:MapV P k e w b n f):MapV P k e w.drew b n f:=h
theorem MapV.setCell (h:MapV P k e w b n f) {a:Addr} (ha:b≠a.block) (u:Value):MapV P k e (w.setCell a u) b n f:=by obtain ⟨D,h,h'⟩:=h;exact ⟨D,h.setCell ha u,h'⟩
theorem MapV.below {w':World} {B:Nat} (h:MapV P k e w b n f) (hb:Below B w w') (hB:b<B):MapV P k e w' b n f:=by
 obtain ⟨D,⟨es,clock,hs,F⟩,h'⟩:=h
 exact ⟨D,⟨es,clock,(hb.block b hB).trans hs,F⟩,h'⟩
theorem MapV.eqf (h:MapV P k e w b n f) {g:Value→Option Value} (hg : ∀ x kl,Go.keyOf P k x=some kl→g x=f x):MapV P k e w b n g:=by
 obtain ⟨D,h,h'⟩:=h
 exact ⟨D,h,fun x kl hx=>by rw [hg x kl hx];exact h' x kl hx⟩
theorem MapV.look (h:MapV P k e w b n f) (K:Keyed P k) (ht:P.underlying t=some (.map k e)) {z:Value} (hz:(zeroValue e).run P w = .ok z w) {zd:DataW Unit} (hzd:plainElem P e z=some (zd,[])) {x:Value} {kl:Lit} (hx:Go.keyOf P k x=some kl) :
 (Instr.lookup t (.map (some b)) x false).run P w = .ok ((f x).getD z) w:=by
 obtain ⟨D,h,h'⟩:=h
 obtain ⟨v,ps,hrun,hv⟩:=h.lookup K ht hz hzd hx
 rw [hrun]
 cases hf:f x with
 | none =>
   rw [Maps.atKey_of_not_has ((h' x kl hx).1 hf)] at hv
   rw [plain_inj hv hzd]
   rfl
 | some y =>
   obtain ⟨_,d,hd,hat⟩:=(h' x kl hx).2 y hf
   rw [hat] at hv
   rw [plain_inj hv hd]
   rfl
theorem MapV.look_ok (h:MapV P k e w b n f) (K:Keyed P k) (ht:P.underlying t=some (.map k e)) {z:Value} (hz:(zeroValue e).run P w = .ok z w) {zd:DataW Unit} (hzd:plainElem P e z=some (zd,[])) {x:Value} {kl:Lit} (hx:Go.keyOf P k x=some kl) :
 (Instr.lookup t (.map (some b)) x true).run P w = .ok (.tuple #[(f x).getD z, .bool (f x).isSome]) w:=by
 obtain ⟨D,h,h'⟩:=h
 obtain ⟨v,ps,hrun,hv⟩:=h.look_ok K ht hz hzd hx
 rw [hrun]
 cases hf:f x with
 | none =>
   have hn:=(h' x kl hx).1 hf
   rw [Maps.atKey_of_not_has hn] at hv
   rw [plain_inj hv hzd,hn]
   rfl
 | some y =>
   obtain ⟨hh,d,hd,hat⟩:=(h' x kl hx).2 y hf
   rw [hat] at hv
   rw [plain_inj hv hd,hh]
   rfl
theorem MapV.store (h:MapV P k e w b n f) (K:Keyed P k) (ht:P.underlying t=some (.map k e)) (hn:n<maxLen) {x y:Value} {kl:Lit} (hx:Go.keyOf P k x=some kl) {d:DataW Unit} (hy:plainElem P e y=some (d,[])) :
 ∃ w',(Instr.mapUpdate t (.map (some b)) x y).run P w = .ok () w'∧(∀ f',f' x=some y→(∀ u,u≠x→f' u=f u)→MapV P k e w' b (n + 1) f')∧w.grownBy w' (some b):=by
 obtain ⟨D,h,h'⟩:=h
 obtain ⟨w',hrun,ho,hg⟩:=h.update K ht hn hx hy
 refine ⟨w',hrun,fun f' h1 h2=>⟨_,ho,fun u ul hu => ?_⟩,hg⟩
 have hD:=h.isMap
 have hkl:=K.key hx
 by_cases hux:u=x
 ·subst hux
  rw [hx] at hu
  injection hu with hu
  subst hu
  rw [h1]
  refine ⟨fun h=>(Option.some_ne_none _ h).elim,fun y' hy' => ?_⟩
  injection hy' with hy'
  subst hy'
  exact ⟨Maps.has_put_same hD hkl d,d,hy,fun z=>Maps.atKey_put_same hD hkl d z⟩
 ·have hne:ul≠kl:=fun e=>hux (K.inj hu (by rw [e];exact hx))
  rw [h2 u hux]
  refine ⟨fun hf=>by rw [Maps.has_put_other hne];exact (h' u ul hu).1 hf,fun y' hf => ?_⟩
  obtain ⟨hh,d',hd',hat⟩:=(h' u ul hu).2 y' hf
  exact ⟨by rw [Maps.has_put_other hne];exact hh,d',hd',fun z=>by rw [Maps.atKey_put_other hne];exact hat z⟩
end
/-! ### at the operation, for the walk -/
section
variable {P:Program} (w:World) {ops:Array Oper} {rest:List Oper} {o:Oper} {a:Act} {Q:Exit→Act→World→Prop}
theorem wpList_lookV (hg:o.guard=none) (m x:Operand) (t:TypeId) (hop:o.op=Op.lookup t m x false) (k e:TypeId) (K:Keyed P k) (ht:P.underlying t=some (.map k e)) (z:Value) (hz : ∀ u,(zeroValue e).run P u = .ok z u) (zd:DataW Unit) (hzd:plainElem P e z=some (zd,[]))
 (b n:Nat) (f:Value→Option Value) (hm:a.eval m = .map (some b)) (hown:MapV P k e w b n f) (key:Value) (kl:Lit) (hx:a.eval x=key) (hkey:Go.keyOf P k key=some kl)
 (r:Value) (hr:(f key).getD z=r) (hK:wpList P ops Q rest (a.put o.dst r) w):wpList P ops Q (o::rest) a w:=by
 subst hr
 refine wpList_plain hg fun K' hK' => ?_
 have hrun:=hown.look K ht (hz w) hzd hkey
 unfold Oper.wp
 simp [execOp,hop,hm,hx,hrun,Result.andThen]
 exact hK' _ _ hK
theorem wpList_lookOkV (hg:o.guard=none) (m x:Operand) (t:TypeId) (hop:o.op=Op.lookup t m x true) (k e:TypeId) (K:Keyed P k) (ht:P.underlying t=some (.map k e)) (z:Value) (hz : ∀ u,(zeroValue e).run P u = .ok z u) (zd:DataW Unit) (hzd:plainElem P e z=some (zd,[]))
 (b n:Nat) (f:Value→Option Value) (hm:a.eval m = .map (some b)) (hown:MapV P k e w b n f) (key:Value) (kl:Lit) (hx:a.eval x=key) (hkey:Go.keyOf P k key=some kl)
 (r:Value) (c:Bool) (hr:(f key).getD z=r) (hc:(f key).isSome=c) (hK:wpList P ops Q rest (a.put o.dst (.tuple #[r, .bool c])) w):wpList P ops Q (o::rest) a w:=by
 subst hr hc
 refine wpList_plain hg fun K' hK' => ?_
 have hrun:=hown.look_ok K ht (hz w) hzd hkey
 unfold Oper.wp
 simp [execOp,hop,hm,hx,hrun,Result.andThen]
 exact hK' _ _ hK
theorem wpList_storeV (hg:o.guard=none) (m x v:Operand) (t:TypeId) (hop:o.op=Op.mapUpdate t m x v) (k e:TypeId) (K:Keyed P k) (ht:P.underlying t=some (.map k e))
 (b n:Nat) (f:Value→Option Value) (hm:a.eval m = .map (some b)) (hown:MapV P k e w b n f) (hn:n<maxLen) (key:Value) (kl:Lit) (hx:a.eval x=key) (hkey:Go.keyOf P k key=some kl) (y:Value) (hv:a.eval v=y) (d:DataW Unit) (hy:plainElem P e y=some (d,[]))
 (f':Value→Option Value) (h1:f' key=some y) (h2 : ∀ u,u≠key→f' u=f u)
 (hK : ∀ w',MapV P k e w' b (n + 1) f'→w.grownBy w' (some b)→wpList P ops Q rest (a.put o.dst undef) w'):wpList P ops Q (o::rest) a w:=by
 refine wpList_plain hg fun K' hK' => ?_
 obtain ⟨w',hrun,r1,r2⟩:=hown.store K ht hn hkey hy
 unfold Oper.wp
 simp [execOp,hop,hm,hx,hv,hrun,Result.andThen]
 exact hK' _ _ (hK w' (r1 f' h1 h2) r2)
end
open Go.RowKit Go
open Go.Maps (Keyed)
theorem findA_ge {s:ByteArray} : ∀ {l:List ByteArray} {n k:Nat},findA s l n k = -1∨(k:Int)≤findA s l n k
 | [],_,_ => .inl (by simp [findA])
 | _::_,0,_ => .inl (by simp [findA])
 | x::l,n + 1,k=>by
   simp only [findA]
   split
   ·exact .inr (Int.le_refl _)
   ·rcases findA_ge (s:=s) (l:=l) (n:=n) (k:=k + 1) with h|h
    ·exact .inl h
    ·exact .inr omA
theorem findA_succ {s:ByteArray} : ∀ {l:List ByteArray} {n k:Nat} (h:n<l.length),findA s l (n + 1) k=if findA s l n k < 0 then (if l[n]=s then ((k+n:Nat):Int) else -1) else findA s l n k
 | x::l,0,k,h=>by
   have h0:findA s l 0 (k + 1) = -1:=by cases l <;> simp [findA]
   simp [findA,h0]
 | x::l,n + 1,k,h=>by
   have ih:=findA_succ (s:=s) (l:=l) (n:=n) (k:=k + 1) (by simpa using h)
   by_cases hx:x=s
   ·have h1 : ¬ ((k:Int) < 0):=by omega
    simp [findA,hx,h1]
   ·have h2:findA s (x::l) (n + 1) k=findA s l n (k + 1):=by simp [findA,hx]
    have h3:findA s (x::l) (n + 1 + 1) k=findA s l (n + 1) (k + 1):=by rw [findA,if_neg hx]
    rw [h2,h3,ih,List.getElem_cons_succ,show k + 1+n=k+(n + 1) by omega]
theorem findT_eq {ts:List Tab} {s:ByteArray} {n:Nat} (hn:n≤ts.length):findT ts s (n:Int)=findA s (ts.map Tab.name) n 0:=by
 unfold findT findI
 rw [show (min (n:Int) (ts.length:Int)).toNat=n by omega]
theorem findT_succ {ts:List Tab} {s:ByteArray} {n:Nat} (hn:n<ts.length):findT ts s ((n + 1:Nat):Int)=if findT ts s (n:Int) < 0 then (if ts[n].name=s then (n:Int) else -1) else findT ts s (n:Int):=by
 rw [findT_eq hn,findT_eq (Nat.le_of_lt hn),findA_succ (by simpa using hn)]
 simp
theorem findT_neg {ts:List Tab} {s:ByteArray} {n:Int} (h:findT ts s n < 0):findT ts s n = -1:=by
 unfold findT findI at h ⊢
 rcases findA_ge (s:=s) (l:=ts.map Tab.name) (n:=(min n (ts.length:Int)).toNat) (k := 0) with h1|h1
 ·exact h1
 ·omega
theorem findT_zero (ts:List Tab) (s:ByteArray):findT ts s ((0:Nat):Int) = -1:=by
 rw [findT_eq (Nat.zero_le _)]
 cases ts <;> simp [findA]
def numF (ts:List Tab) (n:Nat):Value→Option Value
 | .string s=>if findT ts s (n:Int) < 0 then none else some (.int .i64 (findT ts s (n:Int)))
 | _=>none
theorem numF_new {ts:List Tab} {n:Nat} (hn:n<ts.length) (hf:findT ts ts[n].name (n:Int) < 0):numF ts (n + 1) (.string ts[n].name)=some (.int .i64 n):=by
 simp only [numF]
 rw [findT_succ hn,if_pos hf,if_pos rfl,if_neg omA]
theorem numF_old {ts:List Tab} {n:Nat} (hn:n<ts.length) {u:Value} (hu:u ≠ .string ts[n].name):numF ts (n + 1) u=numF ts n u:=by
 cases u
 case string s =>
  have hs:ts[n].name≠s:=fun e=>hu (by rw [e])
  simp only [numF]
  rw [findT_succ hn,if_neg hs]
  by_cases h:findT ts s (n:Int) < 0
  ·rw [if_pos h,if_pos h,if_pos omA]
  ·rw [if_neg h,if_neg h]
 all_goals rfl
theorem str_key {s:ByteArray} (hs:s.size ≤ 1000000):Go.keyOf Tryz.prog 9 (.string s)=some (.string s.data.toList):=WideMaps.keyOf_string_mk Tryz.underlying9 (by unfold maxLen;omega)
theorem str_keyed:Keyed Tryz.prog 9:=Maps.string_keyed Tryz.underlying9
theorem zero_int (u:World):(zeroValue 3).run Tryz.prog u = .ok (.int .i64 0) u:=by kernel_rfl
theorem zero_bool (u:World):(zeroValue 4).run Tryz.prog u = .ok (.bool false) u:=by kernel_rfl
theorem pe_int {a:Int} (h:(Lit.int .i64 a).wf=true):plainElem (H:=Unit) Tryz.prog 3 (.int .i64 a)=some (.lit (.int .i64 a),[]):=Go.plainElem_int Tryz.underlying3 h
theorem pe_bool (b:Bool):plainElem (H:=Unit) Tryz.prog 4 (.bool b)=some (.lit (.bool b),[]):=Go.plainElem_bool Tryz.underlying4 b
theorem Chk.blk {w:World} {g:Nat} {a0 a1 a2 a3 a4 a5 a6 a7 a8 a9 a10:Value} (k:Blk w g 163 #[a0,a1,a2,a3,a4,a5,a6,a7,a8,a9,a10]) :
 w.cell? ⟨g,0,none⟩=some a0∧w.cell? ⟨g,8,none⟩=some a8∧w.cell? ⟨g,9,none⟩=some a9∧w.cell? ⟨g,10,none⟩=some a10:=⟨k.cell 0,k.cell 8,k.cell 9,k.cell 10⟩
theorem cat_within (x a b:Int) (w:World) {r:Bool} (hr:withinB x a b=r):Calls Tryz.prog 150 #[.int .i64 x, .int .i64 a, .int .i64 b] w fun e w'=>e = .returned (.bool r)∧w=w':=by
 subst hr
 cases h1:decide (a≤x)
 ·go_enter Tryz.func150,Tryz.ntmps150
  go_wp2_with fail
  go_ret
  exact ⟨ret_bool (by simp [withinB,h1]),rfl⟩
 ·cases h2:decide (x≤b)
  ·go_enter Tryz.func150,Tryz.ntmps150
   go_wp2_with fail
   go_ret
   exact ⟨ret_bool (by simp [withinB,h1,h2]),rfl⟩
  ·go_enter Tryz.func150,Tryz.ntmps150
   go_wp2_with fail
   go_ret
   exact ⟨ret_bool (by simp [withinB,h1,h2]),rfl⟩
theorem cat_isType (x:Int) (w:World) {r:Bool} (hr:(x == 1||x == 2)=r):Calls Tryz.prog 181 #[.int .i64 x] w fun e w'=>e = .returned (.bool r)∧w=w':=by
 subst hr
 cases h1:(x == 1)
 ·cases h2:(x == 2)
  ·go_enter Tryz.func181,Tryz.ntmps181
   go_wp2_with fail
   go_ret
   exact ⟨rfl,rfl⟩
  ·go_enter Tryz.func181,Tryz.ntmps181
   go_wp2_with fail
   go_ret
   exact ⟨rfl,rfl⟩
 ·go_enter Tryz.func181,Tryz.ntmps181
  go_wp2_with fail
  go_ret
  exact ⟨by simp,rfl⟩
open Go.RowKit Go
theorem col_name (x:Col) (w:World):Calls Tryz.prog 154 #[.agg #[.string x.name, .int .i64 x.ty, .string x.ns, .string x.refs, .slice x.A x.own.length x.cap, .int .i64 x.joint, .int .i64 x.duty]] w fun e w'=>e = .returned (.string x.name)∧Below w.heap.size w w':=by
 go_enter Tryz.func154,Tryz.ntmps154
 go_wp2_with fail
 go_ret
 exact ⟨rfl,by exact belA⟩
theorem col_type (x:Col) (w:World):Calls Tryz.prog 156 #[.agg #[.string x.name, .int .i64 x.ty, .string x.ns, .string x.refs, .slice x.A x.own.length x.cap, .int .i64 x.joint, .int .i64 x.duty]] w fun e w'=>e = .returned (.int .i64 x.ty)∧Below w.heap.size w w':=by
 go_enter Tryz.func156,Tryz.ntmps156
 go_wp2_with fail
 go_ret
 exact ⟨rfl,by exact belA⟩
theorem collect_names (A:Option Addr) (c n:Nat) (cols:List Col) (w:World) (hC:SliceIs w w.heap.size Col.cells 7 A cols) (hcn:cols.length=n) (hn:n ≤ 1000000) :
 Calls Tryz.prog 153 #[.slice A n c, .func (.func 154) #[] #[]] w fun e w'=>(∃ v,e = .returned v∧Owns w' w.heap.size 9 strCells 1 v (cols.map Col.name))∧Below w.heap.size w w':=by
 subst hcn
 obtain ⟨i0,hi0,hz0,hz1,hz2⟩:=info_parts infoStr
 have HC:=qh hC
 clear hC
 go_enter Tryz.func153,Tryz.ntmps153
 go_wp2_with fail
 obtain ⟨wo,rfl⟩ : ∃ wo:World,wo=w:=⟨_,rfl⟩
 go_loopw [5,10] (fun vo vi wr => ∃ m:Nat,m≤cols.length∧vi = .int .i64 m∧Owns wr wo.heap.size 9 strCells 1 vo ((cols.take m).map Col.name)∧Below wo.heap.size wo wr) (fun _ vi _=>cols.length - (intOf vi).toNat)
 case atStart=>exact ⟨0,Nat.zero_le _,rfl,Owns.nil,by exact belA⟩
 case round =>
  obtain ⟨m,hm,rfl,hown,hbr⟩:=hrel
  have hwz:=hbr.size
  have hrow:=hown.row
  have HOWN:=qh hown
  clear hown
  by_cases hlt:m<cols.length
  ·obtain ⟨b5,o5,rfl,hb5,hc5⟩:=(HC.out.below hbr).get hlt
   obtain ⟨h0,h1,h2,h3,h4,h5,h6⟩:=Col.cells7 hc5
   have HML:Hid (((cols.take m).map Col.name).length=m):=qh smA
   clear hc5
   go_wp2_with (first
    | (go_at_call 154;(with_reducible refine (col_name cols[m] _).mono ?_);rintro e w1 ⟨rfl,hb1⟩;have hx1:Below wo.heap.size wo w1:=below_nextN belA hb1 leA;have hO1:Owns w1 wo.heap.size 9 strCells 1 u5 ((cols.take m).map Col.name):=(HOWN.out.below brf nlr).below (below_nextN belA hb1 leA) nlr;have HO1:=qh hO1;clear hO1 hb1)
    | (at_builtin;go_must (refine wpList_append_list _ rfl (.tmp 14) (.tmp 18) 111 rfl 9 i0 _ strCells 1 16 Tryz.underlying111 hi0 hz0 hz1 hz2 rfl omA str_len str_one wo.heap.size u5 ((cols.take m).map Col.name) rfl (HO1.out.alloc _) _ _ _ [Col.name cols[m]] rfl rfl (Blk.one (enc:=strCells) (x:=Col.name cols[m]) (Blk.new' rfl) spA) (by rw [HML.out];simp;omega) (by rw [HML.out];simp [maxLen];omega) (by have:=hx1.size;simp;omega) ?_);intro v' w3 hown' hg' hat';have HOWN':=qh hown';clear hown';have hbel:Below wo.heap.size wo w3:=Below.grown (hx1.alloc (by have:=hx1.size;omega) _) hg' (by have:=hx1.size;simp;omega) hrow))
   go_roundw
   case rel=>exact ⟨m + 1,by omega,by go_num,by rw [List.take_succ_eq_append_getElem hlt,List.map_append];exact HOWN'.out,hbel⟩
   case measure=>exact meA
  ·have hlt':decide (m<cols.length)=false:=by simpa using hlt
   obtain rfl:m=cols.length:=by omega
   have ho:=HOWN.out
   rw [List.take_length] at ho
   have HO:=qh ho
   clear ho
   go_wp2_with fail
   go_ret
   exact ⟨⟨_,rfl,HO.out⟩,hbr⟩
theorem collect_types (A:Option Addr) (c n:Nat) (cols:List Col) (w:World) (hC:SliceIs w w.heap.size Col.cells 7 A cols) (hcn:cols.length=n) (hn:n ≤ 1000000) :
 Calls Tryz.prog 155 #[.slice A n c, .func (.func 156) #[] #[]] w fun e w'=>(∃ v,e = .returned v∧Owns w' w.heap.size 3 intCells 1 v (cols.map Col.ty))∧Below w.heap.size w w':=by
 subst hcn
 obtain ⟨i0,hi0,hz0,hz1,hz2⟩:=info_parts infoInt
 have HC:=qh hC
 clear hC
 go_enter Tryz.func155,Tryz.ntmps155
 go_wp2_with fail
 obtain ⟨wo,rfl⟩ : ∃ wo:World,wo=w:=⟨_,rfl⟩
 go_loopw [5,10] (fun vo vi wr => ∃ m:Nat,m≤cols.length∧vi = .int .i64 m∧Owns wr wo.heap.size 3 intCells 1 vo ((cols.take m).map Col.ty)∧Below wo.heap.size wo wr) (fun _ vi _=>cols.length - (intOf vi).toNat)
 case atStart=>exact ⟨0,Nat.zero_le _,rfl,Owns.nil,by exact belA⟩
 case round =>
  obtain ⟨m,hm,rfl,hown,hbr⟩:=hrel
  have hwz:=hbr.size
  have hrow:=hown.row
  have HOWN:=qh hown
  clear hown
  by_cases hlt:m<cols.length
  ·obtain ⟨b5,o5,rfl,hb5,hc5⟩:=(HC.out.below hbr).get hlt
   obtain ⟨h0,h1,h2,h3,h4,h5,h6⟩:=Col.cells7 hc5
   have HML:Hid (((cols.take m).map Col.ty).length=m):=qh smA
   clear hc5
   go_wp2_with (first
    | (go_at_call 156;(with_reducible refine (col_type cols[m] _).mono ?_);rintro e w1 ⟨rfl,hb1⟩;have hx1:Below wo.heap.size wo w1:=below_nextN belA hb1 leA;have hO1:Owns w1 wo.heap.size 3 intCells 1 u5 ((cols.take m).map Col.ty):=(HOWN.out.below brf nlr).below (below_nextN belA hb1 leA) nlr;have HO1:=qh hO1;clear hO1 hb1)
    | (at_builtin;go_must (refine wpList_append_list _ rfl (.tmp 14) (.tmp 18) 22 rfl 3 i0 _ intCells 1 8 Tryz.underlying22 hi0 hz0 hz1 hz2 rfl omA int_len int_one wo.heap.size u5 ((cols.take m).map Col.ty) rfl (HO1.out.alloc _) _ _ _ [Col.ty cols[m]] rfl rfl (Blk.one (enc:=intCells) (x:=Col.ty cols[m]) (Blk.new' rfl) spA) (by rw [HML.out];simp;omega) (by rw [HML.out];simp [maxLen];omega) (by have:=hx1.size;simp;omega) ?_);intro v' w3 hown' hg' hat';have HOWN':=qh hown';clear hown';have hbel:Below wo.heap.size wo w3:=Below.grown (hx1.alloc (by have:=hx1.size;omega) _) hg' (by have:=hx1.size;simp;omega) hrow))
   go_roundw
   case rel=>exact ⟨m + 1,by omega,by go_num,by rw [List.take_succ_eq_append_getElem hlt,List.map_append];exact HOWN'.out,hbel⟩
   case measure=>exact meA
  ·have hlt':decide (m<cols.length)=false:=by simpa using hlt
   obtain rfl:m=cols.length:=by omega
   have ho:=HOWN.out
   rw [List.take_length] at ho
   have HO:=qh ho
   clear ho
   go_wp2_with fail
   go_ret
   exact ⟨⟨_,rfl,HO.out⟩,hbr⟩
theorem index_int (A:Option Addr) (c n:Nat) (l:List Int) (x:Int) (w:World) (hl:SliceIs w w.heap.size intCells 1 A l) (hln:l.length=n) (hn:n ≤ 1000000) :
 Calls Tryz.prog 194 #[.slice A n c, .int .i64 x] w fun e w'=>(∃ k:Int,e = .returned (.int .i64 k)∧(0≤k↔x∈l))∧w=w':=by
 subst hln
 have HL:=qh hl
 clear hl
 go_enter Tryz.func194,Tryz.ntmps194
 go_wp2
 go_loopw [8] (fun vi wr => ∃ m:Nat,m≤l.length∧vi = .int .i64 m∧w=wr∧(∀ i (h:i<l.length),i<m→l[i]≠x)) (fun vi _=>l.length - (intOf vi).toNat)
 case atStart=>exact ⟨0,Nat.zero_le _,rfl,rfl,fun i _ h=>by omega⟩
 case round =>
  obtain ⟨m,hm,rfl,rfl,hok⟩:=hrel
  have HOK:=qh hok
  clear hok
  by_cases hlt:m<l.length
  ·obtain ⟨b5,o5,rfl,hb5,hc5⟩:=HL.out.get hlt
   have x0:=hc5 0 _ rfl
   simp only [Nat.mul_one,Nat.add_zero] at x0
   clear hc5
   cases he:(x==l[m])
   ·have HE:Hid (l[m]≠x):=qh (by have h : ¬ x=l[m]:=(by simpa using he);exact fun e=>h e.symm)
    go_wp2_with fail
    clear he
    go_roundw
    case rel=>exact ⟨m + 1,by omega,by go_num,trivial,fun i h hi=>by
     rcases Nat.lt_or_ge i m with h1|h1
     ·exact HOK.out i h h1
     ·obtain rfl:i=m:=by omega
      exact HE.out⟩
    case measure=>exact meA
   ·have HE:Hid (x∈l):=qh (by have h:x=l[m]:=(by simpa using he);rw [h];exact lgm hlt)
    go_wp2_with fail
    go_ret
    exact ⟨⟨_,rfl,fun _=>HE.out,fun _=>by omega⟩,rfl⟩
  ·have hlt':decide (m<l.length)=false:=by simpa using hlt
   go_wp2_with fail
   go_ret
   refine ⟨⟨_,rfl,fun h=>by omega,fun h => ?_⟩,rfl⟩
   obtain ⟨i,hi,he⟩:=List.getElem_of_mem h
   exact absurd he (HOK.out i hi omA)
theorem contains_int (A:Option Addr) (c n:Nat) (l:List Int) (x:Int) (w:World) (hl:SliceIs w w.heap.size intCells 1 A l) (hln:l.length=n) (hn:n ≤ 1000000) {r:Bool} (hr:decide (x∈l)=r) :
 Calls Tryz.prog 166 #[.slice A n c, .int .i64 x] w fun e w'=>e = .returned (.bool r)∧w=w':=by
 subst hr
 have HL:=qh hl
 clear hl
 go_enter Tryz.func166,Tryz.ntmps166
 go_wp2_with fail
 with_reducible refine (index_int A c n l x _ HL.out hln hn).mono ?_
 rintro e w1 ⟨⟨k,rfl,hk⟩,rfl⟩
 have HK:=qh hk
 clear hk
 go_wp2_with fail
 go_ret
 refine ⟨ret_bool ?_,rfl⟩
 rw [Bool.eq_iff_iff,decide_eq_true_iff,decide_eq_true_iff]
 exact HK.out
open Go.RowKit Go
structure Sto where
 NA:Option Addr
 nl:Nat
 nc:Nat
 TA:Option Addr
 tc:Nat
 ty:List Int
def Sto.cells (x:Sto):List Value := [.slice x.NA x.nl x.nc, .slice x.TA x.ty.length x.tc]
theorem sto_len : ∀ x:Sto,(Sto.cells x).length = 2:=fun _=>rfl
theorem sto_one : ∀ x:Sto,∀ u∈Sto.cells x,u.oneCell'=true:=by
 intro x u hu
 simp only [Sto.cells,List.mem_cons,List.not_mem_nil,or_false] at hu
 rcases hu with rfl|rfl <;> rfl
theorem lexer_IsNameB (s:ByteArray) (w:World) (hs:s.size ≤ 1000000) {r:Bool} (hr:nameB s=r) :
 Calls Tryz.prog 178 #[.string s] w fun e w'=>e = .returned (.bool r)∧w=w':=by
 subst hr
 exact lexer_IsName s w hs
theorem nameB_ne {s:ByteArray} (h:nameB s=true):s≠⟨#[]⟩:=by
 rintro rfl
 exact absurd h (by decide)
theorem CatOk.notyet {ts:List Tab} (h:CatOk ts) {n:Nat} (hn:n<ts.length):findT ts ts[n].name (n:Int) < 0:=by
 unfold findT
 rw [findI_none fun i hi hin e => ?_]
 ·decide
 ·have hi':i<ts.length:=by simpa using hi
  exact (h.tab n hn).fresh i omA (by simpa using e)
open Go.RowKit Go
theorem MapV.neBlk {P:Program} {k e:TypeId} {w:World} {b n:Nat} {f:Value→Option Value} (h:MapV P k e w b n f) {g:Nat} {t:TypeId} {cs:Array Value} (hB:Blk w g t cs):b≠g:=by
 rintro rfl
 obtain ⟨D,⟨es,clock,hs,F⟩,h'⟩:=h
 unfold Blk at hB
 rw [hB] at hs
 cases hs
theorem MapV.neOwn {P:Program} {k e:TypeId} {w:World} {b n:Nat} {f:Value→Option Value} (h:MapV P k e w b n f) {α : Type} {base:Nat} {t:TypeId} {enc : α → List Value} {s:Nat} {v:Value} {l:List α} (ho:Owns w base t enc s v l) : ∀ q,v.ownBlock=some q→q≠b:=by
 intro q hq e
 obtain ⟨cs,hc⟩:=ho.typ hq
 exact h.neBlk (g:=q) (t:=t) (cs:=cs) hc e.symm
theorem infoSto:(Tryz.prog.info? 217).map (fun i=>(i.zero,i.size,i.bytes))=some (some (.agg #[.slice none 0 0, .slice none 0 0]),2,48):=by kernel_rfl
section
variable {w w':World} {B g dm nm:Nat} {A:Option Addr} {c:Nat} {ts:List Tab} {d n:Nat} {v:Value} {st:List Sto}
theorem Blk.apart {w:World} {g q:Nat} {t t':TypeId} {cs cs':Array Value} (h:Blk w g t cs) (h':Blk w q t' cs') (ht:t≠t'):g≠q:=by
 rintro rfl
 unfold Blk at h h'
 rw [h] at h'
 injection h' with h'
 injection h' with _ h' _
 exact ht h'
end
open Go.RowKit Go
structure Kd where
 cnt:Nat
 lim:Int
 f:Nat
def Kd.cells (g:Nat) (x:Kd):List Value := [.int .i64 x.cnt, .int .i64 x.lim, .func (.func x.f) #[.pointer (some ⟨g,0,none⟩)] #[]]
theorem kd_len (g:Nat) : ∀ x:Kd,(Kd.cells g x).length = 3:=fun _=>rfl
theorem made_nums (w:World) (ts:List Tab):MapV Tryz.prog 9 3 (w.alloc (.map #[] 0)) w.heap.size 0 (numF ts 0) :=
 (MapV.made w _ _ _).eqf fun x kl _=>by
   cases x
   case string s=>simp only [numF];rw [findT_zero,if_pos (by decide)]
   all_goals rfl
end Go.Proofs.YtjhnpnhpmdkpcaaGreat
