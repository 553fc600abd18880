/-
  Contracts and plain laws of this seat, part 9.
-/
import Derived.Maps.Ext
import Derived.Test.YtjidligipoldeaaGreatT6
import Derived.Test.YtjidligipoldeaaGreatT7
import Derived.Deep.RegionHeld3
import Derived.Laws.EntriesVeiled
set_option linter.unusedVariables false
set_option linter.unusedSimpArgs false
set_option maxRecDepth 100000
set_option maxHeartbeats 16000000
namespace Go.Proofs.YtjidligipoldeaaGreat
open Go.RowKit Go
open Go.Maps (Keyed)
theorem fc{P:Prop}(h:P:=by have:=hx1.size;simp;omega):P:=h
theorem ff{P:Prop}(h:P:=by rw[HF.out];rfl):P:=h
theorem fg{P:Prop}(h:P:=by simpa using h):P:=h
theorem qw{P:Program}{e:TypeId}{u v:Value}{d:DataW Unit}{p q:List MemPlace}(hu:plainElem P e u=some (d,p))(hv:plainElem P e v=some (d,q)):u=v:=by
 cases hP:P.underlying e with
 | none=>simp[plainElem,hP]at hu
 | some td =>
   cases td<;>cases u<;>simp[plainElem,hP]at hu<;>cases v<;>simp[plainElem,hP]at hv
   ·rw[←hv.1]at hu
    simpa using hu.1
   ·obtain⟨⟨rfl,_⟩,h1,_⟩:=hu
    obtain⟨⟨rfl,_⟩,h2,_⟩:=hv
    rw[←h2]at h1
    simpa using h1
   ·obtain⟨_,h1,_⟩:=hu
    obtain⟨_,h2,_⟩:=hv
    rw[←h2]at h1
    injection h1 with h1
    injection h1 with h1
    exact congrArg Value.string (ByteArray.ext (Array.toList_inj.1 h1))
def dP(P:Program)(k e:TypeId)(w:World)(b n:Nat)(f:Value→Option Value):Prop:=
 ∃D:DataW Unit,w.ownsMap P k (plainElem P e) b n D ∧ ∀x kl,Go.keyOf P k x=some kl →
  (f x=none→Maps.has D kl=false) ∧ ∀y,f x=some y→Maps.has D kl=true ∧ ∃d,plainElem P e y=some (d,[]) ∧ ∀z,D.atKey kl z=d
section
variable {P:Program}{k e t:TypeId}{w:World}{b n:Nat}{f:Value→Option Value}
theorem dP.made(w:World)(P:Program)(k e:TypeId):dP P k e (w.alloc (.map #[] 0)) w.heap.size 0 (fun _=>none):=
 ⟨.map [],World.ownsMap_made w P k _,fun x kl _=>⟨fun _=>rfl,fun y h=>by cases h⟩⟩
theorem dP.lt(h:dP P k e w b n f):b<w.heap.size:=by obtain⟨D,h,_⟩:=h;exact h.lt
theorem dP.kept{w':World}{row:Option Nat}(h:dP P k e w b n f)(hg:w.grownBy w' row)(hne:some b≠row):dP P k e w' b n f:=by obtain⟨D,h,h'⟩:=h;exact⟨D,h.kept hg hne,h'⟩
theorem dP.alloc(h:dP P k e w b n f)(o:Obj):dP P k e (w.alloc o) b n f:=by obtain⟨D,h,h'⟩:=h;exact⟨D,h.alloc o,h'⟩
theorem dP.drew(h:dP P k e w b n f):dP P k e w.drew b n f:=h
theorem dP.setCell(h:dP P k e w b n f){a:Addr}(ha:b≠a.block)(u:Value):dP P k e (w.setCell a u) b n f:=by obtain⟨D,h,h'⟩:=h;exact⟨D,h.setCell ha u,h'⟩
theorem dP.below{w':World}{B:Nat}(h:dP P k e w b n f)(hb:Below B w w')(hB:b<B):dP P k e w' b n f:=by
 obtain⟨D,⟨es,clock,hs,F⟩,h'⟩:=h
 exact⟨D,⟨es,clock,(hb.block b hB).trans hs,F⟩,h'⟩
theorem dP.eqf(h:dP P k e w b n f){g:Value→Option Value}(hg:∀x kl,Go.keyOf P k x=some kl→g x=f x):dP P k e w b n g:=by
 obtain⟨D,h,h'⟩:=h
 exact⟨D,h,fun x kl hx=>by rw[hg x kl hx];exact h' x kl hx⟩
theorem dP.look(h:dP P k e w b n f)(K:Keyed P k)(ht:P.underlying t=some (.map k e)){z:Value}(hz:(zeroValue e).run P w=.ok z w){zd:DataW Unit}(hzd:plainElem P e z=some (zd,[])){x:Value}{kl:Lit}(hx:Go.keyOf P k x=some kl):
 (Instr.lookup t (.map (some b)) x false).run P w=.ok ((f x).getD z) w:=by
 obtain⟨D,h,h'⟩:=h
 obtain⟨v,ps,hrun,hv⟩:=h.lookup K ht hz hzd hx
 rw[hrun]
 cases hf:f x with
 | none =>
   rw[Maps.atKey_of_not_has ((h' x kl hx).1 hf)]at hv
   rw[qw hv hzd]
   rfl
 | some y =>
   obtain⟨_,d,hd,hat⟩:=(h' x kl hx).2 y hf
   rw[hat]at hv
   rw[qw hv hd]
   rfl
theorem dP.look_ok(h:dP P k e w b n f)(K:Keyed P k)(ht:P.underlying t=some (.map k e)){z:Value}(hz:(zeroValue e).run P w=.ok z w){zd:DataW Unit}(hzd:plainElem P e z=some (zd,[])){x:Value}{kl:Lit}(hx:Go.keyOf P k x=some kl):
 (Instr.lookup t (.map (some b)) x true).run P w=.ok (.tuple #[(f x).getD z,.bool (f x).isSome]) w:=by
 obtain⟨D,h,h'⟩:=h
 obtain⟨v,ps,hrun,hv⟩:=h.look_ok K ht hz hzd hx
 rw[hrun]
 cases hf:f x with
 | none =>
   have hn:=(h' x kl hx).1 hf
   rw[Maps.atKey_of_not_has hn]at hv
   rw[qw hv hzd,hn]
   rfl
 | some y =>
   obtain⟨hh,d,hd,hat⟩:=(h' x kl hx).2 y hf
   rw[hat]at hv
   rw[qw hv hd,hh]
   rfl
theorem dP.store(h:dP P k e w b n f)(K:Keyed P k)(ht:P.underlying t=some (.map k e))(hn:n<maxLen){x y:Value}{kl:Lit}(hx:Go.keyOf P k x=some kl){d:DataW Unit}(hy:plainElem P e y=some (d,[])):
 ∃w',(Instr.mapUpdate t (.map (some b)) x y).run P w=.ok () w'∧(∀f',f' x=some y→(∀u,u≠x→f' u=f u)→dP P k e w' b (n+1) f')∧w.grownBy w' (some b):=by
 obtain⟨D,h,h'⟩:=h
 obtain⟨w',hrun,ho,hg⟩:=h.update K ht hn hx hy
 refine⟨w',hrun,fun f' h1 h2=>⟨_,ho,fun u ul hu =>?_⟩,hg⟩
 have hD:=h.isMap
 have hkl:=K.key hx
 by_cases hux:u=x
 ·subst hux
  rw[hx]at hu
  injection hu with hu
  subst hu
  rw[h1]
  refine⟨fun h=>(Option.some_ne_none _ h).elim,fun y' hy' =>?_⟩
  injection hy' with hy'
  subst hy'
  exact⟨Maps.has_put_same hD hkl d,d,hy,fun z=>Maps.atKey_put_same hD hkl d z⟩
 ·have hne:ul≠kl:=fun e=>hux (K.inj hu (by rw[e];exact hx))
  rw[h2 u hux]
  refine⟨fun hf=>by rw[Maps.has_put_other hne];exact(h' u ul hu).1 hf,fun y' hf =>?_⟩
  obtain⟨hh,d',hd',hat⟩:=(h' u ul hu).2 y' hf
  exact⟨by rw[Maps.has_put_other hne];exact hh,d',hd',fun z=>by rw[Maps.atKey_put_other hne];exact hat z⟩
end
/-! ### at the operation, for the walk -/
section
variable {P:Program}(w:World) {ops:Array Oper}{rest:List Oper}{o:Oper}{a:Act}{Q:Exit→Act→World→Prop}
theorem Ay(hg:o.guard=none)(m x:Operand)(t:TypeId)(hop:o.op=Op.lookup t m x false)(k e:TypeId)(K:Keyed P k)(ht:P.underlying t=some (.map k e))(z:Value)(hz:∀u,(zeroValue e).run P u=.ok z u)(zd:DataW Unit)(hzd:plainElem P e z=some (zd,[]))
 (b n:Nat) (f:Value→Option Value) (hm:a.eval m=.map (some b)) (hown:dP P k e w b n f) (key:Value) (kl:Lit) (hx:a.eval x=key) (hkey:Go.keyOf P k key=some kl)
 (r:Value) (hr:(f key).getD z=r) (hK:wpList P ops Q rest (a.put o.dst r) w):wpList P ops Q (o::rest) a w:=by
 subst hr
 refine wpList_plain hg fun K' hK' =>?_
 have hrun:=hown.look K ht (hz w) hzd hkey
 unfold Oper.wp
 simp[execOp,hop,hm,hx,hrun,Result.andThen]
 exact hK' _ _ hK
theorem oV(hg:o.guard=none)(m x:Operand)(t:TypeId)(hop:o.op=Op.lookup t m x true)(k e:TypeId)(K:Keyed P k)(ht:P.underlying t=some (.map k e))(z:Value)(hz:∀u,(zeroValue e).run P u=.ok z u)(zd:DataW Unit)(hzd:plainElem P e z=some (zd,[]))
 (b n:Nat) (f:Value→Option Value) (hm:a.eval m=.map (some b)) (hown:dP P k e w b n f) (key:Value) (kl:Lit) (hx:a.eval x=key) (hkey:Go.keyOf P k key=some kl)
 (r:Value) (c:Bool) (hr:(f key).getD z=r) (hc:(f key).isSome=c) (hK:wpList P ops Q rest (a.put o.dst (.tuple #[r,.bool c])) w):wpList P ops Q (o::rest) a w:=by
 subst hr hc
 refine wpList_plain hg fun K' hK' =>?_
 have hrun:=hown.look_ok K ht (hz w) hzd hkey
 unfold Oper.wp
 simp[execOp,hop,hm,hx,hrun,Result.andThen]
 exact hK' _ _ hK
theorem zg(hg:o.guard=none)(m x v:Operand)(t:TypeId)(hop:o.op=Op.mapUpdate t m x v)(k e:TypeId)(K:Keyed P k)(ht:P.underlying t=some (.map k e))
 (b n:Nat) (f:Value→Option Value) (hm:a.eval m=.map (some b)) (hown:dP P k e w b n f) (hn:n<maxLen) (key:Value) (kl:Lit) (hx:a.eval x=key) (hkey:Go.keyOf P k key=some kl) (y:Value) (hv:a.eval v=y) (d:DataW Unit) (hy:plainElem P e y=some (d,[]))
 (f':Value→Option Value) (h1:f' key=some y) (h2:∀u,u≠key→f' u=f u)
 (hK:∀w',dP P k e w' b (n+1) f'→w.grownBy w' (some b)→wpList P ops Q rest (a.put o.dst undef) w'):wpList P ops Q (o::rest) a w:=by
 refine wpList_plain hg fun K' hK' =>?_
 obtain⟨w',hrun,r1,r2⟩:=hown.store K ht hn hkey hy
 unfold Oper.wp
 simp[execOp,hop,hm,hx,hv,hrun,Result.andThen]
 exact hK' _ _ (hK w' (r1 f' h1 h2) r2)
end
open Go.RowKit Go
open Go.Maps (Keyed)
theorem DJ{s:ByteArray}:∀ {l:List ByteArray}{n k:Nat},fP s l n k=-1∨(k:Int)≤fP s l n k
 | [],_,_ =>.inl (by simp[fP])
 | _::_,0,_ =>.inl (by simp[fP])
 | x::l,n + 1,k=>by
   simp only[fP]
   split
   ·exact .inr (Int.le_refl _)
   ·rcases DJ (s:=s) (l:=l) (n:=n) (k:=k+1) with h|h
    ·exact .inl h
    ·exact .inr omA
theorem yM{s:ByteArray}:∀ {l:List ByteArray}{n k:Nat}(h:n<l.length),fP s l (n+1) k=if fP s l n k<0 then (if l[n]=s then ((k+n:Nat):Int) else -1) else fP s l n k
 | x::l,0,k,h=>by
   have h0:fP s l 0 (k+1)=-1:=by cases l<;>simp[fP]
   simp[fP,h0]
 | x::l,n + 1,k,h=>by
   have ih:=yM (s:=s) (l:=l) (n:=n) (k:=k+1) fg
   by_cases hx:x=s
   ·have h1:¬ ((k:Int)<0):=by omega
    simp[fP,hx,h1]
   ·have h2:fP s (x::l) (n+1) k=fP s l n (k+1):=by simp[fP,hx]
    have h3:fP s (x::l) (n+1+1) k=fP s l (n+1) (k+1):=by rw[fP,if_neg hx]
    rw[h2,h3,ih,List.getElem_cons_succ,show k+1+n=k+(n+1) by omega]
theorem yK{ts:List Tab}{s:ByteArray}{n:Nat}(hn:n≤ts.length):bY ts s (n:Int)=fP s (ts.map Tab.name) n 0:=by
 unfold bY kK
 rw[show (min (n:Int) (ts.length:Int)).toNat=n by omega]
theorem oC{ts:List Tab}{s:ByteArray}{n:Nat}(hn:n<ts.length):bY ts s ((n+1:Nat):Int)=if bY ts s (n:Int)<0 then (if ts[n].name=s then (n:Int) else -1) else bY ts s (n:Int):=by
 rw[yK hn,yK (Nat.le_of_lt hn),yM (by simpa using hn)]
 simp
theorem I5{ts:List Tab}{s:ByteArray}{n:Int}(h:bY ts s n<0):bY ts s n=-1:=by
 unfold bY kK at h ⊢
 rcases DJ (s:=s) (l:=ts.map Tab.name) (n:=(min n (ts.length:Int)).toNat) (k:= 0) with h1|h1
 ·exact h1
 ·omega
theorem yJ(ts:List Tab)(s:ByteArray):bY ts s ((0:Nat):Int)=-1:=by
 rw[yK (Nat.zero_le _)]
 cases ts<;>simp[fP]
def nZ(ts:List Tab)(n:Nat):Value→Option Value
 | .string s=>if bY ts s (n:Int)<0 then none else some (.int .i64 (bY ts s (n:Int)))
 | _=>none
def kL(ts:List Tab)(n:Nat):Value→Option Value
 | .string s=>if bY ts s (n:Int)<0 then none else some (.bool true)
 | _=>none
theorem CS{ts:List Tab}{n:Nat}(hn:n<ts.length)(hf:bY ts ts[n].name (n:Int)<0):nZ ts (n+1) (.string ts[n].name)=some (.int .i64 n):=by
 simp only[nZ]
 rw[oC hn,if_pos hf,if_pos rfl,if_neg omA]
theorem CR{ts:List Tab}{n:Nat}(hn:n<ts.length){u:Value}(hu:u≠.string ts[n].name):nZ ts (n+1) u=nZ ts n u:=by
 cases u
 case string s =>
  have hs:ts[n].name≠s:=fun e=>hu (by rw[e])
  simp only[nZ]
  rw[oC hn,if_neg hs]
  by_cases h:bY ts s (n:Int)<0
  ·rw[if_pos h,if_pos h,if_pos omA]
  ·rw[if_neg h,if_neg h]
 all_goals rfl
theorem Jb{ts:List Tab}{n:Nat}(hn:n<ts.length)(hf:bY ts ts[n].name (n:Int)<0):kL ts (n+1) (.string ts[n].name)=some (.bool true):=by
 simp only[kL]
 rw[oC hn,if_pos hf,if_pos rfl,if_neg omA]
theorem Ja{ts:List Tab}{n:Nat}(hn:n<ts.length){u:Value}(hu:u≠.string ts[n].name):kL ts (n+1) u=kL ts n u:=by
 cases u
 case string s =>
  have hs:ts[n].name≠s:=fun e=>hu (by rw[e])
  simp only[kL]
  rw[oC hn,if_neg hs]
  by_cases h:bY ts s (n:Int)<0
  ·rw[if_pos h,if_pos h,if_pos omA]
  ·rw[if_neg h,if_neg h]
 all_goals rfl
theorem qo{s:ByteArray}(hs:s.size≤1000000):Go.keyOf Tryz.prog 9 (.string s)=some (.string s.data.toList):=WideMaps.keyOf_string_mk Tryz.underlying9 (by unfold maxLen;omega)
theorem kT:Keyed Tryz.prog 9:=Maps.string_keyed Tryz.underlying9
theorem Ch(u:World):(zeroValue 3).run Tryz.prog u=.ok (.int .i64 0) u:=by kernel_rfl
theorem Hl(u:World):(zeroValue 4).run Tryz.prog u=.ok (.bool false) u:=by kernel_rfl
theorem Bb{a:Int}(h:(Lit.int .i64 a).wf=true):plainElem (H:=Unit) Tryz.prog 3 (.int .i64 a)=some (.lit (.int .i64 a),[]):=Go.plainElem_int Tryz.underlying3 h
theorem Gz(b:Bool):plainElem (H:=Unit) Tryz.prog 4 (.bool b)=some (.lit (.bool b),[]):=Go.plainElem_bool Tryz.underlying4 b
theorem Chk.blk{w:World}{g:Nat}{a0 a1 a2 a3 a4 a5 a6 a7 a8 a9 a10:Value}(k:Blk w g 197 #[a0,a1,a2,a3,a4,a5,a6,a7,a8,a9,a10]):
 w.cell? ⟨g,0,none⟩=some a0∧w.cell? ⟨g,8,none⟩=some a8∧w.cell? ⟨g,9,none⟩=some a9∧w.cell? ⟨g,10,none⟩=some a10:=⟨k.cell 0,k.cell 8,k.cell 9,k.cell 10⟩
theorem Nn(A:Option Addr)(c dm nm g k:Nat)(v:Value)(ts:List Tab)(n:Nat)(s:ByteArray)(w:World)(hB:Blk w g 197 #[.slice A ts.length c,.slice none 0 0,.slice none 0 0,.slice none 0 0,.slice none 0 0,.slice none 0 0,.slice none 0 0,.slice none 0 0,.map (some dm),.map (some nm),v])(hM:dP Tryz.prog 9 3 w nm k (nZ ts n))(hs:s.size≤1000000){r:Int}(hr:bY ts s (n:Int)=r):
 Calls Tryz.prog 199 #[.pointer (some ⟨g,0,none⟩),.string s] w fun e w'=>e=.returned (.int .i64 r)∧Below w.heap.size w w':=by
 subst hr
 obtain⟨p0,p8,p9,p10⟩:=Chk.blk hB
 by_cases h:bY ts s (n:Int)<0
 ·have hf:nZ ts n (.string s)=none:=by simp[nZ,h]
  have hneg:=I5 h
  have HF:=qh hf
  have HN:=qh hneg
  have HM:=qh hM
  clear hf hneg h hM hB
  go_enter Tryz.func199,Tryz.ntmps199
  go_wp2_with (at_lookup;refine oV _ rfl _ _ _ rfl 9 3 kT Tryz.underlying171 (.int .i64 0) Ch _ (Bb (by decide)) nm k _ rfl HM.out (.string s) _ rfl (qo hs) (.int .i64 0) false ff ff ?_)
  go_ret
  exact⟨aS (by rw[HN.out]),by exact ai⟩
 ·have hf:nZ ts n (.string s)=some (.int .i64 (bY ts s (n:Int))):=by simp[nZ,h]
  have HF:=qh hf
  have HM:=qh hM
  clear hf h hM hB
  go_enter Tryz.func199,Tryz.ntmps199
  go_wp2_with (at_lookup;refine oV _ rfl _ _ _ rfl 9 3 kT Tryz.underlying171 (.int .i64 0) Ch _ (Bb (by decide)) nm k _ rfl HM.out (.string s) _ rfl (qo hs) (.int .i64 (bY ts s (n:Int))) true ff ff ?_)
  go_ret
  exact⟨rfl,by exact ai⟩
theorem dI(x a b:Int)(w:World){r:Bool}(hr:aB x a b=r):Calls Tryz.prog 192 #[.int .i64 x,.int .i64 a,.int .i64 b] w fun e w'=>e=.returned (.bool r)∧w=w':=by
 subst hr
 cases h1:decide (a≤x)
 ·go_enter Tryz.func192,Tryz.ntmps192
  go_wp2_with fail
  go_ret
  exact⟨ax (by simp[aB,h1]),rfl⟩
 ·cases h2:decide (x≤b)
  ·go_enter Tryz.func192,Tryz.ntmps192
   go_wp2_with fail
   go_ret
   exact⟨ax (by simp[aB,h1,h2]),rfl⟩
  ·go_enter Tryz.func192,Tryz.ntmps192
   go_wp2_with fail
   go_ret
   exact⟨ax (by simp[aB,h1,h2]),rfl⟩
theorem yY(x:Int)(w:World){r:Bool}(hr:(x == 1||x == 2)=r):Calls Tryz.prog 225 #[.int .i64 x] w fun e w'=>e=.returned (.bool r)∧w=w':=by
 subst hr
 cases h1:(x == 1)
 ·cases h2:(x == 2)
  ·go_enter Tryz.func225,Tryz.ntmps225
   go_wp2_with fail
   go_ret
   exact⟨rfl,rfl⟩
  ·go_enter Tryz.func225,Tryz.ntmps225
   go_wp2_with fail
   go_ret
   exact⟨rfl,rfl⟩
 ·go_enter Tryz.func225,Tryz.ntmps225
  go_wp2_with fail
  go_ret
  exact⟨by simp,rfl⟩
theorem DZ(A:Option Addr)(c dm nm g k:Nat)(v:Value)(ts:List Tab)(n:Nat)(w:World)(hB:Blk w g 197 #[.slice A ts.length c,.slice none 0 0,.slice none 0 0,.slice none 0 0,.slice none 0 0,.slice none 0 0,.slice none 0 0,.slice none 0 0,.map (some dm),.map (some nm),v])(hM:dP Tryz.prog 9 4 w dm k (kL ts n))(hn:n<ts.length)(hk:k<maxLen)(hs:ts[n].name.size≤1000000)(hnm:eY ts[n].name=true)(hf:bY ts ts[n].name (n:Int)<0):
 Calls Tryz.prog 191 #[.pointer (some ⟨g,0,none⟩),.string ts[n].name] w fun e w'=>e=.returned (.int .i64 0)∧dP Tryz.prog 9 4 w' dm (k+1) (kL ts (n+1))∧w.grownBy w' (some dm):=by
 obtain⟨p0,p8,p9,p10⟩:=Chk.blk hB
 have hd:kL ts n (.string ts[n].name)=none:=by simp[kL,hf]
 have HD:=qh hd
 have HM:=qh hM
 have HF:=qh hf
 have HNM:=qh hnm
 clear hd hM hf hB hnm
 go_enter Tryz.func191,Tryz.ntmps191
 go_wp2_with (first
  | (go_at_call 222;(with_reducible refine(ui _ _ hs).mono ?_);rintro e w1 ⟨rfl,rfl⟩;rw[HNM.out])
  | (at_lookup;refine Ay _ rfl _ _ _ rfl 9 4 kT Tryz.underlying194 (.bool false) Hl _ (Gz _) dm k _ rfl HM.out (.string ts[n].name) _ rfl (qo hs) (.bool false) (by rw[HD.out];rfl) ?_)
  | (at_mapUpdate;refine zg _ rfl _ _ _ _ rfl 9 4 kT Tryz.underlying194 dm k _ rfl HM.out hk (.string ts[n].name) _ rfl (qo hs) (.bool true) rfl _ (Gz _) (kL ts (n+1)) (Jb hn HF.out) (fun u hu=>Ja hn hu) ?_;intro w2 hM2 hg2))
 go_ret
 exact⟨rfl,hM2,⟨hg2.os,hg2.tape,hg2.output,hg2.size,hg2.block⟩⟩
open Go.RowKit Go
theorem Nh(x:Col)(w:World):Calls Tryz.prog 196 #[.agg #[.string x.name,.int .i64 x.ty,.string x.ns,.string x.refs,.slice x.A x.own.length x.cap,.int .i64 x.joint,.int .i64 x.gW]] w fun e w'=>e=.returned (.string x.name)∧Below w.heap.size w w':=by
 go_enter Tryz.func196,Tryz.ntmps196
 go_wp2_with fail
 go_ret
 exact⟨rfl,by exact ai⟩
theorem Ng(x:Col)(w:World):Calls Tryz.prog 198 #[.agg #[.string x.name,.int .i64 x.ty,.string x.ns,.string x.refs,.slice x.A x.own.length x.cap,.int .i64 x.joint,.int .i64 x.gW]] w fun e w'=>e=.returned (.int .i64 x.ty)∧Below w.heap.size w w':=by
 go_enter Tryz.func198,Tryz.ntmps198
 go_wp2_with fail
 go_ret
 exact⟨rfl,by exact ai⟩
theorem zM(A:Option Addr)(c n:Nat)(ae:List Col)(w:World)(hC:ag w w.heap.size Col.cells 7 A ae)(hcn:ae.length=n)(hn:n≤1000000):
 Calls Tryz.prog 195 #[.slice A n c,.func (.func 196) #[] #[]] w fun e w'=>(∃v,e=.returned v∧aj w' w.heap.size 9 strCells 1 v (ae.map Col.name))∧Below w.heap.size w w':=by
 subst hcn
 obtain⟨i0,hi0,hz0,hz1,hz2⟩:=info_parts GJ
 have HC:=qh hC
 clear hC
 go_enter Tryz.func195,Tryz.ntmps195
 go_wp2_with fail
 obtain⟨wo,rfl⟩:∃wo:World,wo=w:=⟨_,rfl⟩
 go_loopw [5,10] (fun vo vi wr =>∃m:Nat,m≤ae.length∧vi=.int .i64 m∧aj wr wo.heap.size 9 strCells 1 vo ((ae.take m).map Col.name)∧Below wo.heap.size wo wr) (fun _ vi _=>ae.length-(intOf vi).toNat)
 case atStart=>exact⟨0,Nat.zero_le _,rfl,aj.nil,by exact ai⟩
 case round =>
  obtain⟨m,hm,rfl,hown,hbr⟩:=hrel
  have hwz:=hbr.size
  have hrow:=hown.row
  have HOWN:=qh hown
  clear hown
  by_cases hlt:m<ae.length
  ·obtain⟨b5,o5,rfl,hb5,hc5⟩:=(HC.out.below hbr).get hlt
   obtain⟨h0,h1,h2,h3,h4,h5,h6⟩:=Col.dW hc5
   have HML:Hid (((ae.take m).map Col.name).length=m):=qh smA
   clear hc5
   go_wp2_with (first
    | (go_at_call 196;(with_reducible refine(Nh ae[m] _).mono ?_);rintro e w1 ⟨rfl,hb1⟩;have hx1:Below wo.heap.size wo w1:=aa ai hb1 leA;have hO1:aj w1 wo.heap.size 9 strCells 1 u5 ((ae.take m).map Col.name):=(HOWN.out.below brf nlr).below (aa ai hb1 leA) nlr;have HO1:=qh hO1;clear hO1 hb1)
    | (at_builtin;go_must (refine aO _ rfl (.tmp 14) (.tmp 18) 156 rfl 9 i0 _ strCells 1 16 Tryz.underlying156 hi0 hz0 hz1 hz2 rfl omA AL Gw wo.heap.size u5 ((ae.take m).map Col.name) rfl (HO1.out.alloc _) _ _ _ [Col.name ae[m]] rfl rfl (Blk.one (enc:=strCells) (x:=Col.name ae[m]) (Blk.new' rfl) spA) (by rw[HML.out];simp;omega) (by rw[HML.out];simp[maxLen];omega) fc ?_);intro v' w3 hown' hg' hat';have HOWN':=qh hown';clear hown';have hbel:Below wo.heap.size wo w3:=Below.grown (hx1.alloc (by have:=hx1.size;omega) _) hg' fc hrow))
   go_roundw
   case rel=>exact⟨m+1,by omega,by go_num,by rw[List.take_succ_eq_append_getElem hlt,List.map_append];exact HOWN'.out,hbel⟩
   case measure=>exact meA
  ·have hlt':decide (m<ae.length)=false:=by simpa using hlt
   obtain rfl:m=ae.length:=by omega
   have ho:=HOWN.out
   rw[List.take_length]at ho
   have HO:=qh ho
   clear ho
   go_wp2_with fail
   go_ret
   exact⟨⟨_,rfl,HO.out⟩,hbr⟩
theorem zL(A:Option Addr)(c n:Nat)(ae:List Col)(w:World)(hC:ag w w.heap.size Col.cells 7 A ae)(hcn:ae.length=n)(hn:n≤1000000):
 Calls Tryz.prog 197 #[.slice A n c,.func (.func 198) #[] #[]] w fun e w'=>(∃v,e=.returned v∧aj w' w.heap.size 3 intCells 1 v (ae.map Col.ty))∧Below w.heap.size w w':=by
 subst hcn
 obtain⟨i0,hi0,hz0,hz1,hz2⟩:=info_parts wT
 have HC:=qh hC
 clear hC
 go_enter Tryz.func197,Tryz.ntmps197
 go_wp2_with fail
 obtain⟨wo,rfl⟩:∃wo:World,wo=w:=⟨_,rfl⟩
 go_loopw [5,10] (fun vo vi wr =>∃m:Nat,m≤ae.length∧vi=.int .i64 m∧aj wr wo.heap.size 3 intCells 1 vo ((ae.take m).map Col.ty)∧Below wo.heap.size wo wr) (fun _ vi _=>ae.length-(intOf vi).toNat)
 case atStart=>exact⟨0,Nat.zero_le _,rfl,aj.nil,by exact ai⟩
 case round =>
  obtain⟨m,hm,rfl,hown,hbr⟩:=hrel
  have hwz:=hbr.size
  have hrow:=hown.row
  have HOWN:=qh hown
  clear hown
  by_cases hlt:m<ae.length
  ·obtain⟨b5,o5,rfl,hb5,hc5⟩:=(HC.out.below hbr).get hlt
   obtain⟨h0,h1,h2,h3,h4,h5,h6⟩:=Col.dW hc5
   have HML:Hid (((ae.take m).map Col.ty).length=m):=qh smA
   clear hc5
   go_wp2_with (first
    | (go_at_call 198;(with_reducible refine(Ng ae[m] _).mono ?_);rintro e w1 ⟨rfl,hb1⟩;have hx1:Below wo.heap.size wo w1:=aa ai hb1 leA;have hO1:aj w1 wo.heap.size 3 intCells 1 u5 ((ae.take m).map Col.ty):=(HOWN.out.below brf nlr).below (aa ai hb1 leA) nlr;have HO1:=qh hO1;clear hO1 hb1)
    | (at_builtin;go_must (refine aO _ rfl (.tmp 14) (.tmp 18) 22 rfl 3 i0 _ intCells 1 8 Tryz.underlying22 hi0 hz0 hz1 hz2 rfl omA bE dZ wo.heap.size u5 ((ae.take m).map Col.ty) rfl (HO1.out.alloc _) _ _ _ [Col.ty ae[m]] rfl rfl (Blk.one (enc:=intCells) (x:=Col.ty ae[m]) (Blk.new' rfl) spA) (by rw[HML.out];simp;omega) (by rw[HML.out];simp[maxLen];omega) fc ?_);intro v' w3 hown' hg' hat';have HOWN':=qh hown';clear hown';have hbel:Below wo.heap.size wo w3:=Below.grown (hx1.alloc (by have:=hx1.size;omega) _) hg' fc hrow))
   go_roundw
   case rel=>exact⟨m+1,by omega,by go_num,by rw[List.take_succ_eq_append_getElem hlt,List.map_append];exact HOWN'.out,hbel⟩
   case measure=>exact meA
  ·have hlt':decide (m<ae.length)=false:=by simpa using hlt
   obtain rfl:m=ae.length:=by omega
   have ho:=HOWN.out
   rw[List.take_length]at ho
   have HO:=qh ho
   clear ho
   go_wp2_with fail
   go_ret
   exact⟨⟨_,rfl,HO.out⟩,hbr⟩
theorem DU(b:Nat)(x y:Col)(w:World)(hB:Blk w b 109 #[.string x.name,.int .i64 x.ty,.string x.ns,.string x.refs,.slice x.A x.own.length x.cap,.int .i64 x.joint,.int .i64 x.gW])(hne:y.name≠x.name):
 Calls Tryz.prog 224 #[.agg #[.string y.name,.int .i64 y.ty,.string y.ns,.string y.refs,.slice y.A y.own.length y.cap,.int .i64 y.joint,.int .i64 y.gW],.pointer (some ⟨b,0,none⟩)] w fun e w'=>e=.returned (.bool false)∧Below w.heap.size w w':=by
 have hbl:=hB.lt
 obtain⟨q0,_,_,_,_,_,_⟩:=Col.blk hB
 have hs:=Hr hne
 clear hne hB
 go_enter Tryz.func224,Tryz.ntmps224
 go_wp2_with fail
 go_ret
 exact⟨rfl,by exact ai⟩
theorem Ir(b:Nat)(x:Col)(A:Option Addr)(c n:Nat)(l:List Col)(w:World)(hB:Blk w b 109 #[.string x.name,.int .i64 x.ty,.string x.ns,.string x.refs,.slice x.A x.own.length x.cap,.int .i64 x.joint,.int .i64 x.gW])(hl:ag w w.heap.size Col.cells 7 A l)(hln:l.length=n)(hn:n≤1000000)(hne:∀y∈l,y.name≠x.name):
 Calls Tryz.prog 245 #[.slice A n c,.func (.func 224) #[] #[.pointer (some ⟨b,0,none⟩)]] w fun e w'=>e=.returned (.int .i64 (-1))∧Below w.heap.size w w':=by
 subst hln
 have HB:=qh hB
 have HL:=qh hl
 have HN:=qh hne
 have hbl:=hB.lt
 clear hB hl hne
 go_enter Tryz.func245,Tryz.ntmps245
 go_wp2
 go_loopw [8] (fun vi wr =>∃m:Nat,m≤l.length∧vi=.int .i64 m∧Below w.heap.size w wr) (fun vi _=>l.length-(intOf vi).toNat)
 case atStart=>exact⟨0,Nat.zero_le _,rfl,by exact ai⟩
 case round =>
  obtain⟨m,hm,rfl,hbw⟩:=hrel
  by_cases hlt:m<l.length
  ·obtain⟨b5,o5,rfl,hb5,hc5⟩:=(HL.out.below hbw).get hlt
   obtain⟨h0,h1,h2,h3,h4,h5,h6⟩:=Col.dW hc5
   have HE:=qh (HN.out l[m] (lgm hlt))
   clear hc5
   go_wp2_with (go_at_call 224;(with_reducible refine(DU b x l[m] _ (HB.out.below hbw hbl) HE.out).mono ?_);rintro e w1 ⟨rfl,hb1⟩;have hx1:Below w.heap.size w w1:=aa hbw hb1 hbw.size)
   go_roundw
   case rel=>exact⟨m+1,by omega,by go_num,hx1⟩
   case measure=>exact meA
  ·have hlt':decide (m<l.length)=false:=by simpa using hlt
   go_wp2_with fail
   go_ret
   exact⟨rfl,hbw⟩
theorem BR(b:Nat)(x:Col)(A:Option Addr)(c n:Nat)(l:List Col)(w:World)(hB:Blk w b 109 #[.string x.name,.int .i64 x.ty,.string x.ns,.string x.refs,.slice x.A x.own.length x.cap,.int .i64 x.joint,.int .i64 x.gW])(hl:ag w w.heap.size Col.cells 7 A l)(hln:l.length=n)(hn:n≤1000000)(hne:∀y∈l,y.name≠x.name):
 Calls Tryz.prog 223 #[.slice A n c,.func (.func 224) #[] #[.pointer (some ⟨b,0,none⟩)]] w fun e w'=>e=.returned (.bool false)∧Below w.heap.size w w':=by
 have HB:=qh hB
 have HL:=qh hl
 have HN:=qh hne
 clear hB hl hne
 go_enter Tryz.func223,Tryz.ntmps223
 go_wp2_with fail
 with_reducible refine(Ir b x A c n l _ HB.out HL.out hln hn HN.out).mono ?_
 rintro e w1 ⟨rfl,hb1⟩
 go_wp2_with fail
 go_ret
 exact⟨rfl,hb1⟩
theorem Iq(A:Option Addr)(c n:Nat)(l:List Int)(x:Int)(w:World)(hl:ag w w.heap.size intCells 1 A l)(hln:l.length=n)(hn:n≤1000000):
 Calls Tryz.prog 238 #[.slice A n c,.int .i64 x] w fun e w'=>(∃k:Int,e=.returned (.int .i64 k)∧(0≤k↔x∈l))∧w=w':=by
 subst hln
 have HL:=qh hl
 clear hl
 go_enter Tryz.func238,Tryz.ntmps238
 go_wp2
 go_loopw [8] (fun vi wr =>∃m:Nat,m≤l.length∧vi=.int .i64 m∧w=wr∧(∀i (h:i<l.length),i<m→l[i]≠x)) (fun vi _=>l.length-(intOf vi).toNat)
 case atStart=>exact⟨0,Nat.zero_le _,rfl,rfl,fun i _ h=>by omega⟩
 case round =>
  obtain⟨m,hm,rfl,rfl,hok⟩:=hrel
  have HOK:=qh hok
  clear hok
  by_cases hlt:m<l.length
  ·obtain⟨b5,o5,rfl,hb5,hc5⟩:=HL.out.get hlt
   have x0:=hc5 0 _ rfl
   simp only[Nat.mul_one,Nat.add_zero]at x0
   clear hc5
   cases he:(x==l[m])
   ·have HE:Hid (l[m]≠x):=qh (by have h:¬ x=l[m]:=(by simpa using he);exact fun e=>h e.symm)
    go_wp2_with fail
    clear he
    go_roundw
    case rel=>exact⟨m+1,by omega,by go_num,trivial,fun i h hi=>by
     rcases Nat.lt_or_ge i m with h1|h1
     ·exact HOK.out i h h1
     ·obtain rfl:i=m:=by omega
      exact HE.out⟩
    case measure=>exact meA
   ·have HE:Hid (x∈l):=qh (by have h:x=l[m]:=(by simpa using he);rw[h];exact lgm hlt)
    go_wp2_with fail
    go_ret
    exact⟨⟨_,rfl,fun _=>HE.out,fun _=>by omega⟩,rfl⟩
  ·have hlt':decide (m<l.length)=false:=by simpa using hlt
   go_wp2_with fail
   go_ret
   refine⟨⟨_,rfl,fun h=>by omega,fun h =>?_⟩,rfl⟩
   obtain⟨i,hi,he⟩:=List.getElem_of_mem h
   exact absurd he (HOK.out i hi omA)
theorem oF(A:Option Addr)(c n:Nat)(l:List Int)(x:Int)(w:World)(hl:ag w w.heap.size intCells 1 A l)(hln:l.length=n)(hn:n≤1000000){r:Bool}(hr:decide (x∈l)=r):
 Calls Tryz.prog 210 #[.slice A n c,.int .i64 x] w fun e w'=>e=.returned (.bool r)∧w=w':=by
 subst hr
 have HL:=qh hl
 clear hl
 go_enter Tryz.func210,Tryz.ntmps210
 go_wp2_with fail
 with_reducible refine(Iq A c n l x _ HL.out hln hn).mono ?_
 rintro e w1 ⟨⟨k,rfl,hk⟩,rfl⟩
 have HK:=qh hk
 clear hk
 go_wp2_with fail
 go_ret
 refine⟨ax ?_,rfl⟩
 rw[Bool.eq_iff_iff,decide_eq_true_iff,decide_eq_true_iff]
 exact HK.out
theorem kI(nm:ByteArray)(TA:Option Addr)(tc cn:Nat)(ae:List Col)(er rt:Int)(A:Option Addr)(c n:Nat)(l:List Int)(w:World)(ht:ag w w.heap.size Col.cells 7 TA ae)(hcn:ae.length=cn)(hl:ag w w.heap.size intCells 1 A l)(hln:l.length=n)(hn:n≤1000000)(hc:cn≤1000000)(hok:gB ae l):
 Calls Tryz.prog 226 #[.agg #[.string nm,.slice TA cn tc,.int .i64 er,.int .i64 rt],.slice A n c] w fun e w'=>e=.returned (.bool true)∧Below w.heap.size w w':=by
 subst hln hcn
 have HT:=qh ht
 have HL:=qh hl
 have HOK:=qh hok
 clear ht hl hok
 go_enter Tryz.func226,Tryz.ntmps226
 go_upto_region 1 with (fail)
 refine ah (P:=fun u=>Code.wp _ _ _ _ u) (R:=fun u=>Blk u w.heap.size 61 #[.string nm,.slice TA ae.length tc,.int .i64 er,.int .i64 rt]∧Below w.heap.size w u) ⟨?_,?_⟩ ?_
 ·exact Blk.new _ _ _
 ·exact ai
 rintro W ⟨hB,hbW⟩
 have hzW:=hB.lt
 have HB:=qh hB
 clear hB
 go_wp2_with fail
 go_loopw [5,11] (fun vb vi wr =>∃m:Nat,∃j:Int,m≤l.length∧vi=.int .i64 m∧vb=.int .i64 j∧(m=0→j=-1)∧(∀h:m-1<l.length,0<m→j=l[m-1])∧Below W.heap.size W wr) (fun _ vi _=>l.length-(intOf vi).toNat)
 case atStart=>exact⟨0,-1,Nat.zero_le _,rfl,rfl,fun _=>rfl,fun _ h=>by omega,by exact ai⟩
 case round =>
  obtain⟨m,j,hm,rfl,rfl,hj0,hj1,hbr⟩:=hrel
  have hwz:=hbr.size
  have hxr:=aa hbW hbr hbW.size
  obtain⟨q0,q1,q2,q3⟩:=Tab.blk (HB.out.below hbr hzW)
  by_cases hlt:m<l.length
  ·obtain⟨b5,o5,rfl,hb5,hc5⟩:=(HL.out.below hxr).get hlt
   have x0:=hc5 0 _ rfl
   simp only[Nat.mul_one,Nat.add_zero]at x0
   have hown:=HOK.out m hlt
   obtain⟨q,hq⟩:∃q:Nat,l[m]=(q:Int):=⟨l[m].toNat,by have:=hown.lo;omega⟩
   have hjq:j<(q:Int):=by
    rcases Nat.eq_zero_or_pos m with h0|h0
    ·rw[hj0 h0];omega
    ·rw[hj1 omA h0,←hq];exact hown.asc h0
   have hql:q<ae.length:=by have:=hown.hi;omega
   have hsome:¬ (ae[q].ns=⟨#[]⟩∧ae[q].refs=⟨#[]⟩):=by
    have h:=hown.some_
    have e:l[m].toNat=q:=by omega
    simp only[e]at h
    exact h
   have HQ:=qh hq
   rw[hq]at x0
   have d1:decide ((q:Int)≤j)=false:=by simp;omega
   have d2:decide (ae.length≤q)=false:=by simp;omega
   have d2':decide ((ae.length:Int)≤(q:Int))=false:=by simp;omega
   obtain⟨b6,o6,rfl,hb6,hc6⟩:=(HT.out.below hxr).get hql
   obtain⟨c0,c1,c2,c3,c4,c5,c6⟩:=Col.dW hc6
   clear hc5 hc6 hown hj0 hj1 hjq hq
   by_cases hns:ae[q].ns=⟨#[]⟩
   ·have zF:=wP hns
    have OG:=oD fun h=>hsome ⟨hns,h⟩
    clear hsome hns
    go_wp2_with fail
    go_roundw
    case rel=>exact⟨m+1,q,by omega,by go_num,rfl,fun h=>by omega,fun h _=>by simp only[Nat.add_sub_cancel];exact HQ.out.symm,by exact ai⟩
    case measure=>exact meA
   ·have zF:=oD hns
    clear hsome hns
    go_wp2_with fail
    go_roundw
    case rel=>exact⟨m+1,q,by omega,by go_num,rfl,fun h=>by omega,fun h _=>by simp only[Nat.add_sub_cancel];exact HQ.out.symm,by exact ai⟩
    case measure=>exact meA
  ·have hlt':decide (m<l.length)=false:=by simpa using hlt
   go_wp2_with fail
   go_ret
   exact⟨rfl,hxr⟩
theorem lD(nm:ByteArray)(TA:Option Addr)(tc cn:Nat)(er rt:Int)(x:Col)(w:World)(hj:aB x.joint 0 1=true)(hd:aB x.gW 0 1048576=true)(hp:x.own.length=0→x.joint=0∧x.gW=0)(hr:rt=0∨x.gW≤rt):
 Calls Tryz.prog 227 #[.agg #[.string nm,.slice TA cn tc,.int .i64 er,.int .i64 rt],.agg #[.string x.name,.int .i64 x.ty,.string x.ns,.string x.refs,.slice x.A x.own.length x.cap,.int .i64 x.joint,.int .i64 x.gW]] w fun e w'=>e=.returned (.bool true)∧Below w.heap.size w w':=by
 have HD:=qh hd
 have hj':x.joint=0∨x.joint=1:=by
  rw[aB,Bool.and_eq_true,decide_eq_true_iff,decide_eq_true_iff]at hj
  omega
 have HR:Hid ((rt == 0)=true∨((rt == 0)=false∧decide (x.gW≤rt)=true)):=qh (by
  by_cases h:rt=0
  ·exact .inl fg
  ·exact .inr ⟨by simpa using h,by simpa using hr.resolve_left h⟩)
 clear hj hd hr
 by_cases h0:x.own.length=0
 ·obtain⟨e1,e2⟩:=hp h0
  have p0:decide (0<x.own.length)=false:=by simp[h0]
  have p1:(x.joint != 0)=false:=by simpa using e1
  have p2:(x.gW != 0)=false:=by simpa using e2
  clear hp h0 hj' e1 e2
  rcases HR.out with r1|⟨r1,r2⟩
  ·go_enter Tryz.func227,Tryz.ntmps227
   go_wp2_with (go_at_call 192;(with_reducible refine(dI _ _ _ _ HD.out).mono ?_);rintro e w1 ⟨rfl,rfl⟩)
   go_ret
   exact⟨rfl,by exact ai⟩
  ·go_enter Tryz.func227,Tryz.ntmps227
   go_wp2_with (go_at_call 192;(with_reducible refine(dI _ _ _ _ HD.out).mono ?_);rintro e w1 ⟨rfl,rfl⟩)
   go_ret
   exact⟨rfl,by exact ai⟩
 ·have p0:decide (0<x.own.length)=true:=by simp;omega
  clear hp h0
  cases p2:(x.gW != 0)
  ·rcases hj' with e1|e1
   ·have p1:(x.joint != 0)=false:=by simpa using e1
    clear e1
    rcases HR.out with r1|⟨r1,r2⟩
    ·go_enter Tryz.func227,Tryz.ntmps227
     go_wp2_with (go_at_call 192;(with_reducible refine(dI _ _ _ _ HD.out).mono ?_);rintro e w1 ⟨rfl,rfl⟩)
     go_ret
     exact⟨rfl,by exact ai⟩
    ·go_enter Tryz.func227,Tryz.ntmps227
     go_wp2_with (go_at_call 192;(with_reducible refine(dI _ _ _ _ HD.out).mono ?_);rintro e w1 ⟨rfl,rfl⟩)
     go_ret
     exact⟨rfl,by exact ai⟩
   ·have p1:(x.joint != 0)=true:=by rw[e1];rfl
    have p3:(x.joint != 1)=false:=by simpa using e1
    clear e1
    rcases HR.out with r1|⟨r1,r2⟩
    ·go_enter Tryz.func227,Tryz.ntmps227
     go_wp2_with (go_at_call 192;(with_reducible refine(dI _ _ _ _ HD.out).mono ?_);rintro e w1 ⟨rfl,rfl⟩)
     go_ret
     exact⟨rfl,by exact ai⟩
    ·go_enter Tryz.func227,Tryz.ntmps227
     go_wp2_with (go_at_call 192;(with_reducible refine(dI _ _ _ _ HD.out).mono ?_);rintro e w1 ⟨rfl,rfl⟩)
     go_ret
     exact⟨rfl,by exact ai⟩
  ·rcases hj' with e1|e1
   ·have p1:(x.joint != 0)=false:=by simpa using e1
    clear e1
    rcases HR.out with r1|⟨r1,r2⟩
    ·go_enter Tryz.func227,Tryz.ntmps227
     go_wp2_with (go_at_call 192;(with_reducible refine(dI _ _ _ _ HD.out).mono ?_);rintro e w1 ⟨rfl,rfl⟩)
     go_ret
     exact⟨rfl,by exact ai⟩
    ·go_enter Tryz.func227,Tryz.ntmps227
     go_wp2_with (go_at_call 192;(with_reducible refine(dI _ _ _ _ HD.out).mono ?_);rintro e w1 ⟨rfl,rfl⟩)
     go_ret
     exact⟨rfl,by exact ai⟩
   ·have p1:(x.joint != 0)=true:=by rw[e1];rfl
    have p3:(x.joint != 1)=false:=by simpa using e1
    clear e1
    rcases HR.out with r1|⟨r1,r2⟩
    ·go_enter Tryz.func227,Tryz.ntmps227
     go_wp2_with (go_at_call 192;(with_reducible refine(dI _ _ _ _ HD.out).mono ?_);rintro e w1 ⟨rfl,rfl⟩)
     go_ret
     exact⟨rfl,by exact ai⟩
    ·go_enter Tryz.func227,Tryz.ntmps227
     go_wp2_with (go_at_call 192;(with_reducible refine(dI _ _ _ _ HD.out).mono ?_);rintro e w1 ⟨rfl,rfl⟩)
     go_ret
     exact⟨rfl,by exact ai⟩
open Go.RowKit Go
structure Sto where
 NA:Option Addr
 nl:Nat
 nc:Nat
 TA:Option Addr
 tc:Nat
 ty:List Int
def Sto.cells(x:Sto):List Value:= [.slice x.NA x.nl x.nc,.slice x.TA x.ty.length x.tc]
theorem Gx:∀x:Sto,(Sto.cells x).length=2:=fun _=>rfl
theorem NY:∀x:Sto,∀u∈Sto.cells x,u.oneCell'=true:=by
 intro x u hu
 simp only[Sto.cells,List.mem_cons,List.not_mem_nil,or_false]at hu
 rcases hu with rfl|rfl<;>rfl
structure Ev (w:World) (g dm nm k:Nat) (A:Option Addr) (c:Nat) (ts:List Tab) (n:Nat) (SA:Option Addr) (sc:Nat) (st:List Sto):Prop where
 blk:Blk w g 197 #[.slice A ts.length c,.slice none 0 0,.slice none 0 0,.slice none 0 0,.slice none 0 0,.slice none 0 0,.slice none 0 0,.slice none 0 0,.map (some dm),.map (some nm),.slice SA n sc]
 nums:dP Tryz.prog 9 3 w nm k (nZ ts n)
 sto:ag w w.heap.size Sto.cells 2 SA st
 len:st.length=n
 ty:∀j (h:j<st.length),ag w w.heap.size intCells 1 st[j].TA st[j].ty
 at_:∀j (h:j<st.length) (h':j<ts.length),st[j].ty=ts[j].ae.map Col.ty
theorem Ev.next{w w':World}{g dm nm k:Nat}{A:Option Addr}{c:Nat}{ts:List Tab}{n:Nat}{SA:Option Addr}{sc:Nat}{st:List Sto}(h:Ev w g dm nm k A c ts n SA sc st)(hb:Below w.heap.size w w'):Ev w' g dm nm k A c ts n SA sc st:=
 ⟨h.blk.below hb h.blk.lt,h.nums.below hb h.nums.lt,h.sto.next hb,h.len,fun j hj=>(h.ty j hj).next hb,h.at_⟩
theorem jT(s:ByteArray)(w:World)(hs:s.size≤1000000){r:Bool}(hr:eY s=r):
 Calls Tryz.prog 222 #[.string s] w fun e w'=>e=.returned (.bool r)∧w=w':=by
 subst hr
 exact ui s w hs
theorem Lg{s:ByteArray}(h:eY s=true):s≠⟨#[]⟩:=by
 rintro rfl
 exact absurd h (by decide)
theorem aN.QY{ts:List Tab}(h:aN ts){n:Nat}(hn:n≤ts.length):bY ts ⟨#[]⟩ (n:Int)=-1:=by
 unfold bY
 refine lq fun i hi hin e =>?_
 have hi':i<ts.length:=by simpa using hi
 exact Lg (h.tab i hi').name (by simpa using e)
theorem aN.Lf{ts:List Tab}(h:aN ts){n:Nat}(hn:n<ts.length):bY ts ts[n].name (n:Int)<0:=by
 unfold bY
 rw[lq fun i hi hin e =>?_]
 ·decide
 ·have hi':i<ts.length:=by simpa using hi
  exact(h.tab n hn).fresh i omA (by simpa using e)
structure Qn (ts:List Tab) (ae:List Col) (er rt:Int) (i:Nat) (x:Col) (tg:Int):Prop where
 name:eY x.name=true
 ns:x.ns=⟨#[]⟩∨(x.ns≠⟨#[]⟩∧eY x.ns=true)
 fresh:∀y∈ae.take i,y.name≠x.name
 refs:(x.refs=⟨#[]⟩∧tg=-1)∨(x.refs≠⟨#[]⟩∧x.ns=⟨#[]⟩ ∧ 0≤tg)
 ty:(x.ty == 1||x.ty == 2)=true
 tty:0≤tg→BG ts tg=x.ty
 own:gB ae x.own
 joint:aB x.joint 0 1=true
 gW:aB x.gW 0 1048576=true
 none_:x.own.length=0→x.joint=0∧x.gW=0
 ret:rt=0∨x.gW≤rt
 first:i=0→0<x.own.length→er=1
 reach:0≤tg→0<(wV ts tg).length→(i:Int)∈x.own
theorem aN.Vy{ts:List Tab}(h:aN ts){n:Nat}(hn:n<ts.length){i:Nat}(hi:i<ts[n].ae.length):Qn ts ts[n].ae ts[n].erase ts[n].mG i ts[n].ae[i] (bY ts ts[n].ae[i].refs (n:Int)):=by
 obtain⟨h1,h2,h3,h4,h5,h6,h7⟩:=qf (h.col hn hi)
 obtain⟨x,hx⟩:∃x,ts[n].ae[i]=x:=⟨_,rfl⟩
 rw[hx]at h1 h2 h3 h4 h5 h6 h7 ⊢
 unfold cE1 at h1
 unfold cE2 at h2
 unfold cE3 at h3
 unfold cE4 at h4
 unfold cE5 at h5
 unfold cE6 at h6
 unfold cE7 at h7
 simp only[Bool.or_eq_false_iff,Bool.and_eq_false_iff,Bool.not_eq_false']at h1 h3 h4 h5 h6 h7
 have hrefs:(x.refs=⟨#[]⟩∧bY ts x.refs (n:Int)=-1)∨(x.refs≠⟨#[]⟩∧x.ns=⟨#[]⟩ ∧ 0≤bY ts x.refs (n:Int)):=by
  by_cases hr:x.refs=⟨#[]⟩
  ·exact .inl ⟨hr,by rw[hr];exact h.QY (Nat.le_of_lt hn)⟩
  ·refine .inr ⟨hr,?_,?_⟩
   ·refine Classical.byContradiction fun hne =>?_
    rcases h5.1.1.1 with h|h
    ·rw[oD hne]at h;cases h
    ·rw[oD hr]at h;cases h
   ·rcases h3 with h|h
    ·rw[oD hr]at h;cases h
    ·simpa using h
 have hrs:0≤bY ts x.refs (n:Int)→x.refs.toList.isEmpty=false:=by
  intro h0
  rcases hrefs with ⟨_,h⟩|⟨h,_⟩
  ·omega
  ·exact oD h
 refine⟨h1.1,?_,?_,hrefs,?_,?_,nY.1 h5.1.1.2,h5.1.2,h6.1.1,?_,?_,?_,?_⟩
 ·by_cases hne:x.ns=⟨#[]⟩
  ·exact .inl hne
  ·refine .inr ⟨hne,?_⟩
   rcases h1.2 with h|h
   ·rw[oD hne]at h;cases h
   ·exact h
 ·intro y hy e
  obtain⟨k,hk,he⟩:=List.getElem_of_mem hy
  rw[List.getElem_take]at he
  have hk':k<i:=by simp at hk;omega
  have h3:=bV (p:= ∃k,∃h:k<ts[n].ae.length,k<i∧ts[n].ae[k].name=x.name) ⟨k,by omega,hk',by rw[he,e]⟩
  rw[h2]at h3
  cases h3
 ·have:=h4.1
  simp only[bne_eq_false_iff_eq]at this
  rcases this with h|h
  ·simp[h]
  ·simp[h]
 ·intro h0
  rcases h4.2 with (h|h)|h
  ·rw[decide_eq_false_iff_not]at h;omega
  ·rw[hrs h0]at h;cases h
  ·simpa using h
 ·intro h0
  rcases h5.2 with h|h
  ·rw[beq_eq_false_iff_ne]at h;omega
  ·simpa using h
 ·rcases h6.1.2 with h|h
  ·exact .inl fg
  ·exact .inr fg
 ·intro h0 h1
  rcases h6.2 with (h|h)|h
  ·rw[beq_eq_false_iff_ne]at h;omega
  ·rw[decide_eq_false_iff_not]at h;omega
  ·simpa using h
 ·intro h0 h1
  rcases h7 with (h|h)|h
  ·rw[hrs h0]at h;cases h
  ·rw[decide_eq_false_iff_not]at h;omega
  ·simpa using h
open Go.RowKit Go
theorem FU(g dm nm k:Nat)(A:Option Addr)(c:Nat)(ts:List Tab)(n:Nat)(SA:Option Addr)(sc:Nat)(st:List Sto)(i:Nat)(tn:ByteArray)(TA:Option Addr)(tc:Nat)(ae:List Col)(er rt:Int)(w:World)(hI:Ev w g dm nm k A c ts n SA sc st)(ht:aF w w.heap.size A ts)(hs:aM ts)(hok:aN ts)(hn:n<ts.length)(hnt:ts[n]=⟨tn,TA,tc,ae,er,rt⟩)(hi:i<ae.length):
 Calls Tryz.prog 193 #[.pointer (some ⟨g,0,none⟩),.agg #[.string tn,.slice TA ae.length tc,.int .i64 er,.int .i64 rt],.int .i64 i] w fun e w'=>e=.returned (.int .i64 0)∧Below w.heap.size w w':=by
 have hcs:iM w w.heap.size TA ae:=by have:=ht.2 ts[n] (lgm hn);rw[hnt]at this;exact this
 have hc:Qn ts ae er rt i ae[i] (bY ts ae[i].refs (n:Int)):=by
  have:=hok.Vy hn (i:=i) (by rw[hnt];exact hi)
  simp only[hnt]at this
  exact this
 have hst:=(hs.tabs ts[n] (lgm hn))
 rw[hnt]at hst
 have hcl:ae.length≤1000000:=hst.len
 have hcap:ae.length≤tc:=hst.cap
 have hit:i≤tc:=by omega
 obtain⟨z1,z2,z3,z4⟩:=hst.ae ae[i] (lgm hi)
 have hio:ag w w.heap.size intCells 1 ae[i].A ae[i].own:=hcs.2 ae[i] (lgm hi)
 obtain⟨b5,o5,rfl,hb5,hc5⟩:=hcs.1.get hi
 obtain⟨c0,c1,c2,c3,c4,c5,c6⟩:=Col.dW hc5
 obtain⟨x,hx⟩:∃x,ae[i]=x:=⟨_,rfl⟩
 rw[hx]at hc z1 z2 z3 z4 hio c0 c1 c2 c3 c4 c5 c6
 obtain⟨tg,htg⟩:∃tg,bY ts x.refs (n:Int)=tg:=⟨_,rfl⟩
 rw[htg]at hc
 have eP:∀j (h:j<ts.length),0<ts[j].ae.length:=fun j h=>(hok.ae h).1
 have hlen:=hs.len
 have HI:=qh hI
 have HT:=qh ht
 have HCS:=qh hcs.1
 have HT1:=qh ht.1
 have HC:=qh hc
 have HIO:=qh hio
 have HTG:=qh htg
 have HP:=qh eP
 clear hI ht hcs hc hio htg eP hst hnt hok hs hc5 hx
 go_enter Tryz.func193,Tryz.ntmps193
 go_upto_region 2 with (fail)
 refine ah (P:=fun u=>Code.wp _ _ _ _ u) (R:=fun u=>Blk u w.heap.size 61 #[.string tn,.slice (some ⟨b5,o5,none⟩) ae.length tc,.int .i64 er,.int .i64 rt]∧Blk u (w.heap.size+1) 109 #[.string x.name,.int .i64 x.ty,.string x.ns,.string x.refs,.slice x.A x.own.length x.cap,.int .i64 x.joint,.int .i64 x.gW]∧Below w.heap.size w u) ⟨?_,?_,?_⟩ ?_
 ·exact(Blk.new _ _ _).alloc _
 ·exact Blk.new' spA
 ·exact ai
 clear c0 c1 c2 c3 c4 c5 c6
 rintro W ⟨hBT,hBX,hbW⟩
 have hz2:=hBT.lt
 have hz3:=hBX.lt
 have HBT:=qh hBT
 have HBX:=qh hBX
 have HIW:=qh (HI.out.next hbW)
 obtain⟨q0,q1,q2,q3⟩:=Tab.blk hBT
 obtain⟨r0,r1,r2,r3,r4,r5,r6⟩:=Col.blk hBX
 clear hBT hBX
 go_cut [29] (fun v wc=>v=.bool false∧W=wc)
 case first =>
  rcases HC.out.ns with hns|⟨hns,hnb⟩
  ·have zF:=wP hns
   have HN:Hid (eY x.ns=eY x.ns):=qh rfl
   clear hns
   go_wp2_with (go_at_call 222;(first|(with_reducible refine(jT x.name _ z1 HC.out.name).mono ?_)|(with_reducible refine(jT x.ns _ z2 HN.out).mono ?_));rintro e w1 ⟨rfl,rfl⟩)
   go_meet
   exact⟨rfl,rfl⟩
  ·have zF:=oD hns
   have HN:=qh hnb
   clear hns hnb
   go_wp2_with (go_at_call 222;(first|(with_reducible refine(jT x.name _ z1 HC.out.name).mono ?_)|(with_reducible refine(jT x.ns _ z2 HN.out).mono ?_));rintro e w1 ⟨rfl,rfl⟩)
   go_meet
   exact⟨rfl,rfl⟩
 case rest =>
  obtain⟨rfl,rfl⟩:=hcut
  go_upto_region 4 with (fail)
  go_cut [35] (fun v wc=>v=.bool false∧Below W.heap.size W wc)
  case first =>
   go_wp2_with (go_at_call 223;(with_reducible refine(BR (w.heap.size+1) x _ _ i (ae.take i) _ HBX.out (ag.take (HCS.out.next hbW) i) smA omA HC.out.fresh).mono ?_);rintro e w1 ⟨rfl,hb1⟩)
   go_meet
   exact⟨rfl,hb1⟩
  case rest =>
   obtain⟨rfl,hb1⟩:=hcut
   obtain⟨W1,rfl⟩:∃W1:World,W1=wc:=⟨_,rfl⟩
   have hx1:Below w.heap.size w W1:=aa hbW hb1 hbW.size
   clear q0 q1 q2 q3 r0 r1 r2 r3 r4 r5 r6
   obtain⟨q0,q1,q2,q3⟩:=Tab.blk (HBT.out.below hb1 hz2)
   obtain⟨r0,r1,r2,r3,r4,r5,r6⟩:=Col.blk (HBX.out.below hb1 hz3)
   go_upto_region 6 with (fail)
   go_cut [8] (fun v wc=>v=.int .i64 tg∧Below W.heap.size W wc)
   case first =>
    go_wp2_with (go_at_call 199;(with_reducible refine(Nn A c dm nm g k (.slice SA n sc) ts n x.refs _ (HIW.out.next hb1).blk (HIW.out.next hb1).nums z3 HTG.out).mono ?_);rintro e w1 ⟨rfl,hb2⟩)
    go_meet
    exact⟨rfl,aa hb1 hb2 hb1.size⟩
   case rest =>
    obtain⟨rfl,hb2⟩:=hcut
    obtain⟨W2,rfl⟩:∃W2:World,W2=wc:=⟨_,rfl⟩
    have hx2:Below w.heap.size w W2:=aa hbW hb2 hbW.size
    clear q0 q1 q2 q3 r0 r1 r2 r3 r4 r5 r6 hb1 hx1
    obtain⟨q0,q1,q2,q3⟩:=Tab.blk (HBT.out.below hb2 hz2)
    obtain⟨r0,r1,r2,r3,r4,r5,r6⟩:=Col.blk (HBX.out.below hb2 hz3)
    have HI2:=qh (HIW.out.next hb2)
    obtain⟨p0,p8,p9,p10⟩:=Chk.blk HI2.out.blk
    have hgz:=HI2.out.blk.lt
    go_upto_region 7 with (fail)
    go_cut [46] (fun v wc=>v=.bool false∧W2=wc)
    case first =>
     rcases HC.out.refs with ⟨hr,ht0⟩|⟨hr,hn0,ht0⟩
     ·have hr':=wP hr
      clear hr ht0
      go_wp2_with fail
      go_meet
      exact⟨rfl,rfl⟩
     ·have hr':=oD hr
      have d0:decide (tg<0)=false:=by simp;omega
      clear hr ht0 hn0
      go_wp2_with fail
      go_meet
      exact⟨rfl,rfl⟩
    case rest =>
     obtain⟨rfl,rfl⟩:=hcut
     go_upto_region 9 with (fail)
     go_cut [69] (fun v wc=>v=.bool false∧Below W2.heap.size W2 wc)
     case first =>
      have hk0:=az (w:=W2) g hgz
      have hk1:=az (w:=W2) (w.heap.size+1) (by have:=hb2.size;omega)
      have HTY:=qh HC.out.ty
      by_cases h0:0≤tg
      ·have d0:decide (0≤tg)=true:=by simpa using h0
       have htt:=HC.out.tty h0
       obtain⟨m,hm⟩:∃m:Nat,tg=(m:Int):=⟨tg.toNat,by omega⟩
       have hmn:m<n:=by
        have h1:=HTG.out
        rw[hm]at h1
        unfold bY at h1
        obtain⟨q,hq,e1,e2,_⟩:=qF (l:=ts.map Tab.name) (s:=x.refs) (n:=min (n:Int) ts.length) omA
        omega
       have hml:m<st.length:=by rw[HI2.out.len];exact hmn
       have hmt:m<ts.length:=by omega
       obtain⟨b6,o6,hbe,hb6,hc6⟩:=HI2.out.sto.get hml
       have hty:=HI2.out.at_ m hml hmt
       have htl:0<st[m].ty.length:=by rw[hty,List.length_map];exact HP.out m hmt
       obtain⟨b7,o7,MP,hb7,hc7⟩:=(HI2.out.ty m hml).get htl
       have x0:=hc7 0 _ rfl
       have y0:=hc6 0 _ rfl
       have y1:=hc6 1 _ rfl
       have hv:st[m].ty[0]=x.ty:=by
        rw[←htt,hm,Aj hmt (HP.out m hmt)]
        simp only[hty,List.getElem_map]
       simp only[Nat.mul_one,Nat.add_zero,hv]at x0
       rw[MP]at y1
       subst hbe hm
       have hk2:=az (w:=W2) b6 hb6
       have hk3:=az (w:=W2) b7 hb7
       have hne:(x.ty != x.ty)=false:=by simp
       have hnn:=HI2.out.len
       clear hc6 hc7 htt hty hv MP h0 y0
       refine af krA krA ?_;(repeat(go_big_quiet_step ((go_at_call 225;with_reducible exact cK (yY _ _ HTY.out)))));refine wpQuiet_nil ?_;intro wq hq
       go_wp2_with fail
       go_meet
       exact⟨rfl,hq⟩
      ·have d0:decide (0≤tg)=false:=by simpa using h0
       clear h0
       refine af krA krA ?_;(repeat(go_big_quiet_step ((go_at_call 225;with_reducible exact cK (yY _ _ HTY.out)))));refine wpQuiet_nil ?_;intro wq hq
       go_wp2_with fail
       go_meet
       exact⟨rfl,hq⟩
     case rest =>
      obtain⟨rfl,hb3⟩:=hcut
      obtain⟨W3,rfl⟩:∃W3:World,W3=wc:=⟨_,rfl⟩
      have hy3:Below W.heap.size W W3:=aa hb2 hb3 hb2.size
      have hx3:Below w.heap.size w W3:=aa hbW hy3 hbW.size
      clear q0 q1 q2 q3 r0 r1 r2 r3 r4 r5 r6 p0 p8 p9 p10
      obtain⟨q0,q1,q2,q3⟩:=Tab.blk (HBT.out.below hy3 hz2)
      obtain⟨r0,r1,r2,r3,r4,r5,r6⟩:=Col.blk (HBX.out.below hy3 hz3)
      go_upto_region 11 with (fail)
      go_cut [90] (fun v wc=>v=.bool false∧Below W.heap.size W wc)
      case first =>
       rcases HC.out.refs with ⟨hr,ht0⟩|⟨hr,hn0,ht0⟩
       ·have hr':=wP hr
        clear hr ht0
        rcases HC.out.ns with hns|⟨hns,hnb⟩
        ·have zF:=wP hns
         clear hns
         go_wp2_with (first
         | (go_at_call 226;(with_reducible refine(kI tn _ tc ae.length ae er rt x.A x.cap x.own.length x.own _ (HCS.out.next hx3) rfl (HIO.out.next hx3) rfl z4 hcl HC.out.own).mono ?_);rintro e w1 ⟨rfl,hb1⟩;have hy4:Below W.heap.size W w1:=aa hy3 hb1 hy3.size;clear q0 q1 q2 q3 r0 r1 r2 r3 r4 r5 r6;obtain⟨q0,q1,q2,q3⟩:=Tab.blk (HBT.out.below hy4 hz2);obtain⟨r0,r1,r2,r3,r4,r5,r6⟩:=Col.blk (HBX.out.below hy4 hz3);have HY4:=qh hy4)
         | (go_at_call 227;(with_reducible refine(lD tn _ tc ae.length er rt x _ HC.out.joint HC.out.gW HC.out.none_ HC.out.ret).mono ?_);rintro e w2 ⟨rfl,hb2⟩;have HY5:=qh (aa HY4.out hb2 HY4.out.size)))
         go_meet
         exact⟨rfl,HY5.out⟩
        ·have zF:=oD hns
         clear hns hnb
         go_wp2_with (first
         | (go_at_call 226;(with_reducible refine(kI tn _ tc ae.length ae er rt x.A x.cap x.own.length x.own _ (HCS.out.next hx3) rfl (HIO.out.next hx3) rfl z4 hcl HC.out.own).mono ?_);rintro e w1 ⟨rfl,hb1⟩;have hy4:Below W.heap.size W w1:=aa hy3 hb1 hy3.size;clear q0 q1 q2 q3 r0 r1 r2 r3 r4 r5 r6;obtain⟨q0,q1,q2,q3⟩:=Tab.blk (HBT.out.below hy4 hz2);obtain⟨r0,r1,r2,r3,r4,r5,r6⟩:=Col.blk (HBX.out.below hy4 hz3);have HY4:=qh hy4)
         | (go_at_call 227;(with_reducible refine(lD tn _ tc ae.length er rt x _ HC.out.joint HC.out.gW HC.out.none_ HC.out.ret).mono ?_);rintro e w2 ⟨rfl,hb2⟩;have HY5:=qh (aa HY4.out hb2 HY4.out.size)))
         go_meet
         exact⟨rfl,HY5.out⟩
       ·have zF:=wP hn0
        clear hr ht0 hn0
        go_wp2_with (first
        | (go_at_call 226;(with_reducible refine(kI tn _ tc ae.length ae er rt x.A x.cap x.own.length x.own _ (HCS.out.next hx3) rfl (HIO.out.next hx3) rfl z4 hcl HC.out.own).mono ?_);rintro e w1 ⟨rfl,hb1⟩;have hy4:Below W.heap.size W w1:=aa hy3 hb1 hy3.size;clear q0 q1 q2 q3 r0 r1 r2 r3 r4 r5 r6;obtain⟨q0,q1,q2,q3⟩:=Tab.blk (HBT.out.below hy4 hz2);obtain⟨r0,r1,r2,r3,r4,r5,r6⟩:=Col.blk (HBX.out.below hy4 hz3);have HY4:=qh hy4)
        | (go_at_call 227;(with_reducible refine(lD tn _ tc ae.length er rt x _ HC.out.joint HC.out.gW HC.out.none_ HC.out.ret).mono ?_);rintro e w2 ⟨rfl,hb2⟩;have HY5:=qh (aa HY4.out hb2 HY4.out.size)))
        go_meet
        exact⟨rfl,HY5.out⟩
      case rest =>
       obtain⟨rfl,hy4⟩:=hcut
       obtain⟨W4,rfl⟩:∃W4:World,W4=wc:=⟨_,rfl⟩
       have hx4:Below w.heap.size w W4:=aa hbW hy4 hbW.size
       clear q0 q1 q2 q3 r0 r1 r2 r3 r4 r5 r6
       obtain⟨q0,q1,q2,q3⟩:=Tab.blk (HBT.out.below hy4 hz2)
       obtain⟨r0,r1,r2,r3,r4,r5,r6⟩:=Col.blk (HBX.out.below hy4 hz3)
       have HI4:=qh (HIW.out.next hy4)
       obtain⟨p0,p8,p9,p10⟩:=Chk.blk HI4.out.blk
       go_upto_region 14 with (fail)
       go_cut [104] (fun v wc=>v=.bool false∧W4=wc)
       case first =>
        by_cases h0:i=0
        ·have e0:((i:Int) == 0)=true:=by rw[h0];rfl
         by_cases h1:0<x.own.length
         ·have e1:decide (0<x.own.length)=true:=by simpa using h1
          have e2:(er != 1)=false:=by simpa using HC.out.first h0 h1
          clear h0 h1
          go_wp2_with fail
          go_meet
          exact⟨rfl,rfl⟩
         ·have e1:decide (0<x.own.length)=false:=by simpa using h1
          clear h0 h1
          go_wp2_with fail
          go_meet
          exact⟨rfl,rfl⟩
        ·have e0:((i:Int) == 0)=false:=by simpa using h0
         clear h0
         go_wp2_with fail
         go_meet
         exact⟨rfl,rfl⟩
       case rest =>
        obtain⟨rfl,rfl⟩:=hcut
        by_cases h0:0≤tg
        ·have d0:decide (0≤tg)=true:=by simpa using h0
         have hrc:=HC.out.reach h0
         obtain⟨m,hm⟩:∃m:Nat,tg=(m:Int):=⟨tg.toNat,by omega⟩
         have hmn:m<n:=by
          have h1:=HTG.out
          rw[hm]at h1
          unfold bY at h1
          obtain⟨q,hq,e1,e2,_⟩:=qF (l:=ts.map Tab.name) (s:=x.refs) (n:=min (n:Int) ts.length) omA
          omega
         have hmt:m<ts.length:=by omega
         have hpm:=HP.out m hmt
         obtain⟨b6,o6,hbe,hb6,hc6⟩:=(HT1.out.next hx4).get hmt
         obtain⟨s0,s1,s2,s3⟩:=Tab.fV hc6
         obtain⟨b7,o7,MP,hb7,hc7⟩:=((HT.out.2 ts[m] (lgm hmt)).1.next hx4).get (HP.out m hmt)
         obtain⟨u0,u1,u2,u3,u4,u5,u6⟩:=Col.dW hc7
         rw[hm,yE hmt (HP.out m hmt)]at hrc
         rw[MP]at s1
         simp only[Nat.zero_mul,Nat.add_zero]at u4
         subst hbe hm
         clear hc6 hc7 h0 MP s0 s2 s3 u0 u1 u2 u3 u5 u6
         by_cases h1:0<ts[m].ae[0].own.length
         ·have e1:decide (0<ts[m].ae[0].own.length)=true:=by simpa using h1
          have HM:Hid (decide ((i:Int)∈x.own)=true):=qh (by simpa using hrc h1)
          clear hrc h1
          go_wp2_with (go_at_call 210;(with_reducible refine(oF x.A x.cap x.own.length x.own i _ (HIO.out.next hx4) rfl z4 HM.out).mono ?_);rintro e w1 ⟨rfl,rfl⟩)
          go_ret
          exact⟨rfl,hx4⟩
         ·have e1:decide (0<ts[m].ae[0].own.length)=false:=by simpa using h1
          clear hrc h1
          go_wp2_with fail
          go_ret
          exact⟨rfl,hx4⟩
        ·have d0:decide (0≤tg)=false:=by simpa using h0
         clear h0
         go_wp2_with fail
         go_ret
         exact⟨rfl,hx4⟩
open Go.RowKit Go
theorem dP.aY{P:Program}{k e:TypeId}{w:World}{b n:Nat}{f:Value→Option Value}(h:dP P k e w b n f){g:Nat}{t:TypeId}{cs:Array Value}(hB:Blk w g t cs):b≠g:=by
 rintro rfl
 obtain⟨D,⟨es,clock,hs,F⟩,h'⟩:=h
 unfold Blk at hB
 rw[hB]at hs
 cases hs
theorem dP.wB{P:Program}{k e:TypeId}{w:World}{b n:Nat}{f:Value→Option Value}(h:dP P k e w b n f){α:Type}{base:Nat}{t:TypeId}{enc:α→List Value}{s:Nat}{v:Value}{l:List α}(ho:aj w base t enc s v l):∀q,v.ownBlock=some q→q≠b:=by
 intro q hq e
 obtain⟨cs,hc⟩:=ho.typ hq
 exact h.aY (g:=q) (t:=t) (cs:=cs) hc e.symm
theorem Ou:(Tryz.prog.info? 253).map (fun i=>(i.zero,i.size,i.bytes))=some (some (.agg #[.slice none 0 0,.slice none 0 0]),2,48):=by kernel_rfl
structure iD (w:World) (B g dm nm:Nat) (A:Option Addr) (c:Nat) (ts:List Tab) (d n:Nat) (v:Value) (st:List Sto):Prop where
 blk:Blk w g 197 #[.slice A ts.length c,.slice none 0 0,.slice none 0 0,.slice none 0 0,.slice none 0 0,.slice none 0 0,.slice none 0 0,.slice none 0 0,.map (some dm),.map (some nm),v]
 decl:dP Tryz.prog 9 4 w dm d (kL ts d)
 nums:dP Tryz.prog 9 3 w nm n (nZ ts n)
 own:aj w B 253 Sto.cells 2 v st
 ty:∀x∈st,aj w B 3 intCells 1 (.slice x.TA x.ty.length x.tc) x.ty
 len:st.length=n
 at_:∀j (h:j<st.length) (h':j<ts.length),st[j].ty=ts[j].ae.map Col.ty
 hg:B≤g
 hd:B≤dm
 hn:B≤nm
 ne:dm≠nm
section
variable {w w':World}{B g dm nm:Nat}{A:Option Addr}{c:Nat}{ts:List Tab}{d n:Nat}{v:Value}{st:List Sto}
theorem iD.next(h:iD w B g dm nm A c ts d n v st)(hb:Below w.heap.size w w'):iD w' B g dm nm A c ts d n v st:=
 ⟨h.blk.below hb h.blk.lt,h.decl.below hb h.decl.lt,h.nums.below hb h.nums.lt,h.own.below hb nlr,fun x hx=>(h.ty x hx).below hb nlr,h.len,h.at_,h.hg,h.hd,h.hn,h.ne⟩
theorem iD.declared(h:iD w B g dm nm A c ts d n v st){d':Nat}(hM:dP Tryz.prog 9 4 w' dm d' (kL ts d'))(hg:w.grownBy w' (some dm)):iD w' B g dm nm A c ts d' n v st:=
 ⟨h.blk.grown hg (fun e=>h.decl.aY h.blk (Option.some.inj e).symm),hM,h.nums.kept hg (fun e=>h.ne (Option.some.inj e).symm),
  h.own.kept hg (fun q hq e=>h.decl.wB h.own q hq (Option.some.inj e)),fun x hx=>(h.ty x hx).kept hg (fun q hq e=>h.decl.wB (h.ty x hx) q hq (Option.some.inj e)),h.len,h.at_,h.hg,h.hd,h.hn,h.ne⟩
theorem iD.rd(h:iD w B g dm nm A c ts d n v st):∃SA sc,v=.slice SA n sc∧Ev w g dm nm n A c ts n SA sc st:=by
 obtain⟨SA,sc,hv,hc,hs,ha⟩:=h.own.slice Gx
 rw[h.len]at hv
 refine⟨SA,sc,hv,?_,h.nums,hs,h.len,fun j hj =>?_,h.at_⟩
 ·rw[←hv];exact h.blk
 ·obtain⟨A',c',e,_,hs',_⟩:=(h.ty st[j] (lgm hj)).slice bE
  injection e with e _ _
  rw[e]
  exact hs'
theorem iD.added{w2 M w3:World}{x:Sto}{v3:Value}(h:iD w B g dm nm A c ts d n v st)(hgW:w.grownBy w2 (some nm))(hM2:dP Tryz.prog 9 3 w2 nm (n+1) (nZ ts (n+1)))(hMb:Below w2.heap.size w2 M)(hg3:M.grownBy w3 v.ownBlock)(ho3:aj w3 B 253 Sto.cells 2 v3 (st ++ [x]))(hx:aj w B 3 intCells 1 (.slice x.TA x.ty.length x.tc) x.ty)(hn:n<ts.length)(hxt:x.ty=ts[n].ae.map Col.ty):
 iD (w3.setCell ⟨g,10,none⟩ v3) B g dm nm A c ts d (n+1) v3 (st ++ [x]):=by
 have n1:∀q,v.ownBlock=some q→some q≠some nm:=fun q hq e=>h.nums.wB h.own q hq (Option.some.inj e)
 have k1:Blk M g 197 _:=(h.blk.grown hgW (fun e=>h.nums.aY h.blk (Option.some.inj e).symm)).below hMb (Nat.lt_of_lt_of_le h.blk.lt hgW.size)
 have k2:aj M B 253 Sto.cells 2 v st:=(h.own.kept hgW n1).below hMb nlr
 have k3:Blk w3 g 197 _:=k1.grown hg3 (fun e=>k2.aY k1 (by decide) g e.symm rfl)
 have d1:dP Tryz.prog 9 4 w3 dm d (kL ts d):=by
  have m:dP Tryz.prog 9 4 M dm d (kL ts d):=(h.decl.kept hgW (fun e=>h.ne (Option.some.inj e))).below hMb (Nat.lt_of_lt_of_le h.decl.lt hgW.size)
  exact m.kept hg3 (fun e=>m.wB k2 dm e.symm rfl)
 have d2:dP Tryz.prog 9 3 w3 nm (n+1) (nZ ts (n+1)):=by
  have m:=hM2.below hMb hM2.lt
  exact m.kept hg3 (fun e=>m.wB k2 nm e.symm rfl)
 have d3:∀y∈st ++ [x],aj w3 B 3 intCells 1 (.slice y.TA y.ty.length y.tc) y.ty:=by
  intro y hy
  have h0:aj w B 3 intCells 1 (.slice y.TA y.ty.length y.tc) y.ty:=by
   rcases List.mem_append.1 hy with hy|hy
   ·exact h.ty y hy
   ·rw[List.mem_singleton.1 hy];exact hx
  have m:=(h0.kept hgW (fun q hq e=>h.nums.wB h0 q hq (Option.some.inj e))).below hMb nlr
  exact m.kept hg3 (m.eT k2 (by decide))
 refine⟨?_,d1.setCell (d1.aY k3) v3,d2.setCell (d2.aY k3) v3,ho3.far (ho3.aY k3 (by decide)) v3,fun y hy=>(d3 y hy).far ((d3 y hy).aY k3 (by decide)) v3,by rw[List.length_append,h.len];rfl,fun j hj hj' =>?_,h.hg,h.hd,h.hn,h.ne⟩
 ·exact(k3.aH 10 v3).eq spA
 ·rcases Nat.lt_or_ge j st.length with hl|hl
  ·rw[List.getElem_append_left hl]
   exact h.at_ j hl hj'
  ·have e:j=n:=by have:=h.len;simp at hj;omega
   subst e
   rw[List.getElem_append_right hl]
   simpa[h.len]using hxt
theorem Blk.apart{w:World}{g q:Nat}{t t':TypeId}{cs cs':Array Value}(h:Blk w g t cs)(h':Blk w q t' cs')(ht:t≠t'):g≠q:=by
 rintro rfl
 unfold Blk at h h'
 rw[h]at h'
 injection h' with h'
 injection h' with _ h' _
 exact ht h'
theorem iD.others{w2 M w3:World}{v3:Value}(h:iD w B g dm nm A c ts d n v st)(hgW:w.grownBy w2 (some nm))(hMb:Below w2.heap.size w2 M)(hg3:M.grownBy w3 v.ownBlock){q:Nat}{t:TypeId}{cs:Array Value}(ht:253≠t)(ht':t≠197)(hq:Blk w q t cs):Blk (w3.setCell ⟨g,10,none⟩ v3) q t cs:=by
 have n1:∀q,v.ownBlock=some q→some q≠some nm:=fun q hq e=>h.nums.wB h.own q hq (Option.some.inj e)
 have k1:=(h.blk.grown hgW (fun e=>h.nums.aY h.blk (Option.some.inj e).symm)).below hMb (Nat.lt_of_lt_of_le h.blk.lt hgW.size)
 have k2:aj M B 253 Sto.cells 2 v st:=(h.own.kept hgW n1).below hMb nlr
 have k3:=k1.grown hg3 (fun e=>k2.aY k1 (by decide) g e.symm rfl)
 have q1:Blk M q t cs:=(hq.grown hgW (fun e=>h.nums.aY hq (Option.some.inj e).symm)).below hMb (Nat.lt_of_lt_of_le hq.lt hgW.size)
 have q2:Blk w3 q t cs:=q1.grown hg3 (fun e=>k2.aY q1 ht q e.symm rfl)
 exact q2.far (q2.apart k3 ht') v3
end
theorem Ps(B g dm nm:Nat)(A:Option Addr)(c:Nat)(ts:List Tab)(d n:Nat)(v:Value)(st:List Sto)(x:Sto)(w:World)(hI:iD w B g dm nm A c ts d n v st)(hn:n<ts.length)(h8:ts.length≤8)(hs:ts[n].name.size≤1000000)(hfr:bY ts ts[n].name (n:Int)<0)(hx:aj w B 3 intCells 1 (.slice x.TA x.ty.length x.tc) x.ty)(hxt:x.ty=ts[n].ae.map Col.ty)(hB:B≤w.heap.size):
 Calls Tryz.prog 194 #[.pointer (some ⟨g,0,none⟩),.string ts[n].name,.agg #[.slice x.NA x.nl x.nc,.slice x.TA x.ty.length x.tc]] w fun e w' =>
  (e=.returned (.tuple #[]) ∧ ∃v',iD w' B g dm nm A c ts d (n+1) v' (st ++ [x]))∧Below B w w' ∧ ∀q t cs,253≠t→t≠197→Blk w q t cs→Blk w' q t cs:=by
 obtain⟨i0,hi0,hz0,hz1,hz2⟩:=info_parts Ou
 obtain⟨SA,sc,rfl,_⟩:=hI.rd
 have HI:=qh hI
 have HX:=qh hx
 have HF:=qh hfr
 have HXT:=qh hxt
 clear hI hx hfr hxt
 go_enter Tryz.func194,Tryz.ntmps194
 go_upto_region 1 with (fail)
 refine ah (P:=fun u=>Code.wp _ _ _ _ u) (R:=fun u=>iD u B g dm nm A c ts d n (.slice SA n sc) st∧Blk u w.heap.size 253 x.cells.toArray∧aj u B 3 intCells 1 (.slice x.TA x.ty.length x.tc) x.ty∧Below w.heap.size w u) ⟨?_,?_,?_,?_⟩ ?_
 ·exact HI.out.next ai
 ·exact Blk.new _ _ _
 ·exact HX.out.alloc _
 ·exact ai
 rintro W ⟨hi,hbx,hox,hbW⟩
 have hxz:=hbx.lt
 have hgz:=hi.blk.lt
 obtain⟨p0,p8,p9,p10⟩:=Chk.blk hi.blk
 have HI1:=qh hi
 have HBX:=qh hbx
 have HOX:=qh hox
 have hxg:w.heap.size≠nm:=fun e=>hi.nums.aY hbx e.symm
 have hgg:g≠nm:=fun e=>hi.nums.aY hi.blk e.symm
 have hmx:n<maxLen:=by unfold maxLen;omega
 have hwf:(Lit.int .i64 (n:Int)).wf=true:=by(have h1:IntKind.i64.min≤(n:Int):=Int.le_trans (by decide) (Int.natCast_nonneg n);simp[Lit.wf,h1];omega)
 clear hi hbx hox
 obtain⟨w2,hrun,hst,hg2⟩:=(dP.drew HI1.out.nums).store kT Tryz.underlying171 hmx (qo hs) (Bb hwf)
 have HM2:=qh (hst (nZ ts (n+1)) (CS hn HF.out) fun u hu=>CR hn hu)
 have hgW:W.grownBy w2 (some nm):=⟨hg2.os,hg2.tape,hg2.output,hg2.size,hg2.block⟩
 have s9:=(World.cell?_of_block (a:=⟨g,9,none⟩) (hgW.block g hgz (fun e=>hgg (Option.some.inj e)))).trans p9
 have s10:=(World.cell?_of_block (a:=⟨g,10,none⟩) (hgW.block g hgz (fun e=>hgg (Option.some.inj e)))).trans p10
 clear hst
 refine wp_region_held_drew (S:=fun u=>u.cell? ⟨g,9,none⟩=some (.map (some nm))∧u.cell? ⟨g,10,none⟩=some (.slice SA n sc)) krA ⟨p9,p10⟩ (fun hHeld =>?_)
 refine tkH 0 hHeld ?_
 refine tkH 1 hHeld ?_
 refine tkH 2 hHeld ?_
 refine tkH 3 hHeld ?_
 refine tkH 4 hHeld ?_
 refine tkH 5 hHeld ?_
 refine tkH 6 hHeld ?_
 refine tkH 7 hHeld ?_
 refine tkH 8 hHeld ?_
 refine tkH 9 hHeld ?_
 refine wpAnyH_ready (rs:= [10]) krA spA ?_
 refine AllReadyH.cons rfl (fun K hK =>?_) AllReadyH.nil
 go_simp
 refine hK.out _ _ ⟨s9,s10⟩ (fun hHeld =>?_)
 clear hK K
 refine wpAnyH_done krA ?_ _
 have ZV:g<w2.heap.size:=Nat.lt_of_lt_of_le hgz hgW.size
 have hb2:Blk w2 g 197 #[.slice A ts.length c,.slice none 0 0,.slice none 0 0,.slice none 0 0,.slice none 0 0,.slice none 0 0,.slice none 0 0,.slice none 0 0,.map (some dm),.map (some nm),.slice SA n sc]:=HI1.out.blk.grown hgW (fun e=>hgg (Option.some.inj e))
 have OW:Blk w2 w.heap.size 253 x.cells.toArray:=HBX.out.grown hgW (fun e=>hxg (Option.some.inj e))
 have hown2:aj w2 B 253 Sto.cells 2 (.slice SA n sc) st:=HI1.out.own.kept hgW (fun q hq e=>HI1.out.nums.wB HI1.out.own q hq (Option.some.inj e))
 have aah:w.heap.size<w2.heap.size:=OW.lt
 have x0:w2.cell? ⟨w.heap.size,0,none⟩=some (.slice x.NA x.nl x.nc):=OW.cell 0
 have x1:w2.cell? ⟨w.heap.size,1,none⟩=some (.slice x.TA x.ty.length x.tc):=OW.cell 1
 have hlen3:(st ++ [x]).length=n+1:=by rw[List.length_append,HI1.out.len];rfl
 obtain⟨M,hM⟩:∃M,(w2.alloc (.cells #[.slice x.NA x.nl x.nc,.slice x.TA x.ty.length x.tc] 253)).drew=M:=⟨_,rfl⟩
 have hbM:Blk M g 197 #[.slice A ts.length c,.slice none 0 0,.slice none 0 0,.slice none 0 0,.slice none 0 0,.slice none 0 0,.slice none 0 0,.slice none 0 0,.map (some dm),.map (some nm),.slice SA n sc]:=by rw[←hM];exact(hb2.alloc _).drew
 have hxM:Blk M w.heap.size 253 x.cells.toArray:=by rw[←hM];exact(OW.alloc _).drew
 have Mq:aj M B 253 Sto.cells 2 (.slice SA n sc) st:=by rw[←hM];exact aj.drew (aj.alloc hown2 _)
 have hMz:M.heap.size=w2.heap.size+1:=by rw[←hM];show (w2.alloc _).heap.size=_;simp
 have hsM:ag M M.heap.size Sto.cells 2 (some ⟨w2.heap.size,0,none⟩) [x]:=Blk.one (enc:=Sto.cells) (x:=x) (by rw[←hM];exact Blk.drew (Blk.new' rfl)) omA
 have hng:∀q,(Value.slice SA n sc).ownBlock=some q→q≠g:=Mq.aY hbM (by decide)
 have m10:M.cell? ⟨g,10,none⟩=some (.slice SA n sc):=hbM.cell 10
 have m0:M.cell? ⟨w.heap.size,0,none⟩=some (.slice x.NA x.nl x.nc):=hxM.cell 0
 have m1:M.cell? ⟨w.heap.size,1,none⟩=some (.slice x.TA x.ty.length x.tc):=hxM.cell 1
 have HBM:=qh hbM
 have HOM:=qh Mq
 have HXM:=qh hxM
 have hnx:∀q,(Value.slice SA n sc).ownBlock=some q→q≠w.heap.size:=fun q hq e=>by have:=HI.out.own.lt q hq;omega
 have HB2:=qh hb2
 clear hbM Mq hb2
 go_upto_region 2 with (fail)
 refine aJ (S:=fun u=>u.cell? ⟨g,10,none⟩=some (.slice SA n sc)∧u.cell? ⟨w.heap.size,0,none⟩=some (.slice x.NA x.nl x.nc)∧u.cell? ⟨w.heap.size,1,none⟩=some (.slice x.TA x.ty.length x.tc)) [10] krA ⟨s10,x0,x1⟩ (fun hHeld =>?_)
 refine tkT 0 hHeld ?_
 refine tkT 1 hHeld ?_
 refine tkT 2 hHeld ?_
 refine tkT 3 hHeld ?_
 refine tkT 4 hHeld ?_
 refine tkT 5 hHeld ?_
 refine r1T 6 (fun K hK =>?_)
 go_simp
 refine hK.out _ _ _ ⟨m10,m0,m1⟩ (fun hHeld =>?_)
 clear hK K
 refine r1T 7 (fun K hK =>?_)
 refine av M rfl (.tmp 20) (.tmp 22) 195 rfl 253 i0 _ Sto.cells 2 48 Tryz.underlying195 hi0 hz0 hz1 hz2 rfl omA Gx NY B (.slice SA n sc) st rfl HOM.out (some ⟨w2.heap.size,0,none⟩) 1 1 [x] rfl rfl hsM (by have:=HI1.out.len;simp;omega) (by have:=HI1.out.len;simp[maxLen];omega) (by have:=hbW.size;have:=hgW.size;omega) ?_
 intro v3 w3 hown3 hg3 qR
 obtain⟨A3,c3,rfl,_,_⟩:=hown3.form
 rw[hlen3]at hown3 qR
 have hb3:Blk w3 g 197 #[.slice A ts.length c,.slice none 0 0,.slice none 0 0,.slice none 0 0,.slice none 0 0,.slice none 0 0,.slice none 0 0,.slice none 0 0,.map (some dm),.map (some nm),.slice SA n sc]:=HBM.out.grown hg3 (fun e=>hng g e.symm rfl)
 have n10:w3.cell? ⟨g,10,none⟩=some (.slice SA n sc):=hb3.cell 10
 have nf:w3.frozen? ⟨g,10,none⟩=false:=hb3.frozen 10
 have HB3:=qh hb3
 have HG3:=qh hg3
 have HO3:=qh hown3
 have hx3:Blk w3 w.heap.size 253 x.cells.toArray:=HXM.out.grown hg3 (fun e=>hnx _ e.symm rfl)
 have y0:w3.cell? ⟨w.heap.size,0,none⟩=some (.slice x.NA x.nl x.nc):=hx3.cell 0
 have y1:w3.cell? ⟨w.heap.size,1,none⟩=some (.slice x.TA x.ty.length x.tc):=hx3.cell 1
 rw[hlen3]
 refine hK.out _ _ _ ⟨n10,y0,y1⟩ (fun hHeld =>?_)
 clear hK K hb3 hown3 hg3 hx3
 (try simp only[Act.put,gP6])
 refine r1T 8 (fun K hK =>?_)
 go_simp
 refine hK.out _ _ _ ⟨n10,y0,y1⟩ (fun hHeld =>?_)
 clear hK K
 refine tkT 9 hHeld ?_
 refine rzT 10 (fun K hK =>?_)
 go_simp
 refine hK.out _ _ _ ?_
 clear hK K
 refine aI krA ?_ _
 go_end0
 have hMb:Below w2.heap.size w2 M:=by rw[←hM];exact(brf.alloc nlr _).drew
 have hbl:Below B w (w3.setCell ⟨g,10,none⟩ (.slice A3 (n+1) c3)):=by
  refine Below.setCell (p:=⟨g,10,none⟩) (Below.grown ((Below.grown (hbW.mono hB) hgW (by have:=hbW.size;omega) (fun q e =>?_)).trans (hMb.mono ?_)) HG3.out ?_ (fun q hq=>HI.out.own.row q hq)) HI.out.hg _
  ·injection e with e
   rw[←e]
   exact HI.out.hn
  ·have:=hbW.size
   have:=hgW.size
   omega
  ·have:=hbW.size
   have:=hgW.size
   omega
 exact⟨⟨rfl,_,iD.added HI1.out hgW HM2.out hMb HG3.out HO3.out HOX.out hn HXT.out⟩,hbl,fun q t cs ht ht' hq=>HI1.out.others hgW hMb HG3.out ht ht' (hq.below hbW hq.lt)⟩
open Go.RowKit Go
theorem Jj(B g dm nm:Nat)(A:Option Addr)(c:Nat)(ts:List Tab)(n:Nat)(v:Value)(st:List Sto)(w:World)(hI:iD w B g dm nm A c ts n n v st)(ht:aF w B A ts)(hs:aM ts)(hok:aN ts)(hn:n<ts.length)(hB:B≤w.heap.size):
 Calls Tryz.prog 146 #[.pointer (some ⟨g,0,none⟩),.int .i64 n] w fun e w' =>
  (e=.returned (.int .i64 0) ∧ ∃v' st',iD w' B g dm nm A c ts (n+1) (n+1) v' st')∧Below B w w' ∧ ∀q t cs,253≠t→t≠197→Blk w q t cs→Blk w' q t cs:=by
 have h8:=hok.len
 have hnm:=(hok.tab n hn).name
 have hfr:=hok.Lf hn
 have hsh:=hok.shape hn
 have hcn:=hok.ae hn
 have hsz:=(hs.tabs ts[n] (lgm hn)).name
 have hcs:ag w B Col.cells 7 ts[n].A ts[n].ae:=(ht.2 ts[n] (lgm hn)).1
 have hsh':=hsh
 simp only[kC,Bool.and_eq_true]at hsh'
 obtain⟨⟨hw1,hw2⟩,hw3⟩:=hsh'
 have her:ts[n].erase=0∨ts[n].erase=1:=by
  rw[aB,Bool.and_eq_true,decide_eq_true_iff,decide_eq_true_iff]at hw2
  omega
 obtain⟨b5,o5,rfl,hb5,hc5⟩:=ht.1.get hn
 obtain⟨t0,t1,t2,t3⟩:=Tab.fV hc5
 have HI:=qh hI
 have HT:=qh ht
 have HS:=qh hs
 have HOK:=qh hok
 have HNM:=qh hnm
 have HFR:=qh hfr
 have HCS:=qh hcs
 have HW1:=qh hw1
 have HW3:=qh hw3
 obtain⟨p0,p8,p9,p10⟩:=Chk.blk hI.blk
 clear hI ht hs hok hnm hfr hcs hc5 hw1 hw2 hw3 hsh
 go_enter Tryz.func146,Tryz.ntmps146
 go_upto_region 2 with (fail)
 refine ah (P:=fun u=>Code.wp _ _ _ _ u) (R:=fun u=>Blk u w.heap.size 61 #[.string ts[n].name,.slice ts[n].A ts[n].ae.length ts[n].cap,.int .i64 ts[n].erase,.int .i64 ts[n].mG]∧Below w.heap.size w u) ⟨?_,?_⟩ ?_
 ·exact Blk.new _ _ _
 ·exact ai
 clear t0 t1 t2 t3 p0 p8 p9 p10
 rintro W ⟨hBT,hbW⟩
 have hWz:=hBT.lt
 have HBT:=qh hBT
 have HIW:=qh (HI.out.next hbW)
 obtain⟨q0,q1,q2,q3⟩:=Tab.blk hBT
 clear hBT
 go_cut [6] (fun x wc=>x=.int .i64 0∧iD wc B g dm nm (some ⟨b5,o5,none⟩) c ts (n+1) n v st∧Blk wc w.heap.size 61 #[.string ts[n].name,.slice ts[n].A ts[n].ae.length ts[n].cap,.int .i64 ts[n].erase,.int .i64 ts[n].mG]∧Below B w wc ∧ ∀q t cs,Blk w q t cs→Blk wc q t cs)
 case first =>
  go_wp2_with (go_at_call 191;(with_reducible refine(DZ (some ⟨b5,o5,none⟩) c dm nm g n v ts n _ HIW.out.blk HIW.out.decl hn (by unfold maxLen;omega) hsz HNM.out HFR.out).mono ?_);rintro e w1 ⟨rfl,hM1,hg1⟩)
  go_meet
  refine⟨rfl,HIW.out.declared hM1 hg1,HBT.out.grown hg1 (fun e=>HIW.out.decl.aY HBT.out (Option.some.inj e).symm),Below.grown (hbW.mono hB) hg1 (by have:=hbW.size;omega) (fun q e =>?_),fun q t cs hq=>(hq.below hbW hq.lt).grown hg1 (fun e=>HIW.out.decl.aY (hq.below hbW hq.lt) (Option.some.inj e).symm)⟩
  injection e with e
  rw[←e]
  exact HIW.out.hd
 case rest =>
  obtain⟨rfl,hI1,hB1,hb1,hk1⟩:=hcut
  have HK1:=qh hk1
  clear hk1
  obtain⟨W1,rfl⟩:∃W1:World,W1=wc:=⟨_,rfl⟩
  have aaj:=hb1.size
  have hBz:B≤W1.heap.size:=by omega
  have hz1:=hB1.lt
  have HI1:=qh hI1
  have HB1:=qh hB1
  have HT1:=qh (HT.out.below hb1)
  have YV:=qh (HCS.out.below hb1)
  clear q0 q1 q2 q3 hI1
  obtain⟨q0,q1,q2,q3⟩:=Tab.blk hB1
  clear hB1
  go_upto_region 5 with (fail)
  go_cut [44] (fun x wc=>x=.bool false∧W1=wc)
  case first =>
   rcases her with he|he
   ·have e0:(ts[n].erase != 0)=false:=by simpa using he
    clear he
    go_wp2_with (go_at_call 192;(first|(with_reducible refine(dI _ _ _ _ HW1.out).mono ?_)|(with_reducible refine(dI _ _ _ _ HW3.out).mono ?_));rintro e w1 ⟨rfl,rfl⟩)
    go_meet
    exact⟨rfl,rfl⟩
   ·have e0:(ts[n].erase != 0)=true:=by rw[he];rfl
    have e1:(ts[n].erase != 1)=false:=by simpa using he
    clear he
    go_wp2_with (go_at_call 192;(first|(with_reducible refine(dI _ _ _ _ HW1.out).mono ?_)|(with_reducible refine(dI _ _ _ _ HW3.out).mono ?_));rintro e w1 ⟨rfl,rfl⟩)
    go_meet
    exact⟨rfl,rfl⟩
  case rest =>
   obtain⟨rfl,rfl⟩:=hcut
   go_upto_region 8 with (fail)
   go_loopw [48] (fun vi wr =>∃m:Nat,m≤ts[n].ae.length∧vi=.int .i64 m∧Below W1.heap.size W1 wr) (fun vi _=>ts[n].ae.length-(intOf vi).toNat)
   case atStart=>exact⟨0,Nat.zero_le _,rfl,Below.refl _ _⟩
   case round =>
    obtain⟨m,hm,rfl,hbr⟩:=hrel
    have hwz:=hbr.size
    obtain⟨q0,q1,q2,q3⟩:=Tab.blk (HB1.out.below hbr hz1)
    by_cases hlt:m<ts[n].ae.length
    ·obtain⟨SA,sc,hv,hrd⟩:=(HI1.out.next hbr).rd
     have HRD:=qh hrd
     have HTR:=qh ((HT1.out.below (hbr.mono hBz)).mono (show B≤wr.heap.size by omega))
     clear hrd
     go_wp2_with (go_at_call 193;(with_reducible refine(FU g dm nm n _ c ts n SA sc st m ts[n].name ts[n].A ts[n].cap ts[n].ae ts[n].erase ts[n].mG _ HRD.out HTR.out HS.out HOK.out hn rfl hlt).mono ?_);rintro e w2 ⟨rfl,hb2⟩;have HX2:=qh (aa hbr hb2 hwz))
     go_roundw
     case rel=>exact⟨m+1,by omega,by go_num,HX2.out⟩
     case measure=>exact meA
    ·have hlt':decide (m<ts[n].ae.length)=false:=by simpa using hlt
     have HIR:=qh (HI1.out.next hbr)
     have HBR:=qh (HB1.out.below hbr hz1)
     have HCR:=qh (YV.out.below (hbr.mono hBz))
     have hxr:Below B w wr:=hb1.trans (hbr.mono hBz)
     have hzr:w.heap.size<wr.heap.size:=by omega
     have hBr:B≤wr.heap.size:=by omega
     clear hlt
     go_upto_region 14 with (fail)
     have hdr:Below wr.heap.size wr wr.drew:=brf.drew
     have HCD:=qh ((HCR.out.mono hBr).next hdr)
     refine wp_region_held_drew (S:=fun u=>u.cell? ⟨w.heap.size,0,none⟩=some (.string ts[n].name)∧u.cell? ⟨w.heap.size,1,none⟩=some (.slice ts[n].A ts[n].ae.length ts[n].cap)) krA ⟨q0,q1⟩ (fun hHeld =>?_)
     refine tkH 0 hHeld ?_
     refine tkH 1 hHeld ?_
     refine tkH 2 hHeld ?_
     refine tkH 3 hHeld ?_
     refine tkH 4 hHeld ?_
     refine tkH 6 hHeld ?_
     refine tkH 7 hHeld ?_
     refine wpAnyH_ready (rs:= [5]) krA spA ?_
     refine AllReadyH.cons rfl (fun K hK =>?_) AllReadyH.nil
     go_simp
     (go_at_call 195;(with_reducible refine(zM ts[n].A ts[n].cap ts[n].ae.length ts[n].ae _ HCD.out rfl omA).mono ?_))
     rintro e w3 ⟨⟨nv,rfl,hno⟩,hb3⟩
     obtain⟨NA,nc,rfl,_,_⟩:=hno.form
     have hx3:Below wr.heap.size wr w3:=hdr.trans hb3
     have hz3:=hx3.size
     have s0:=(hx3.cell (p:=⟨w.heap.size,0,none⟩) hzr).trans q0
     have s1:=(hx3.cell (p:=⟨w.heap.size,1,none⟩) hzr).trans q1
     have HC3:=qh ((HCR.out.mono hBr).next hx3)
     clear hno hb3
     go_wp2_with fail
     refine hK.out _ _ ⟨s0,s1⟩ (fun hHeld =>?_)
     clear hK K
     (try simp only[Act.put,gP6])
     refine wpAnyH_ready (rs:= [8]) krA spA ?_
     refine AllReadyH.cons rfl (fun K hK =>?_) AllReadyH.nil
     go_simp
     (go_at_call 197;(with_reducible refine(zL ts[n].A ts[n].cap ts[n].ae.length ts[n].ae _ HC3.out rfl omA).mono ?_))
     rintro e w4 ⟨⟨tv,rfl,hto⟩,hb4⟩
     obtain⟨TA,tc,rfl,_,_⟩:=hto.form
     have hx4:Below wr.heap.size wr w4:=aa hx3 hb4 hz3
     have hz4:=hx4.size
     have r0:=(hx4.cell (p:=⟨w.heap.size,0,none⟩) hzr).trans q0
     have r1:=(hx4.cell (p:=⟨w.heap.size,1,none⟩) hzr).trans q1
     have HTO:=qh (hto.mono (show B≤w3.heap.size by omega))
     have HB4:=qh (HBR.out.below hx4 hzr)
     clear hto hb4
     go_wp2_with fail
     refine hK.out _ _ ⟨r0,r1⟩ (fun hHeld =>?_)
     clear hK K
     (try simp only[Act.put,gP6])
     refine tkH 9 hHeld ?_
     refine wpAnyH_ready (rs:= [10]) krA spA ?_
     refine AllReadyH.cons rfl (fun K hK =>?_) AllReadyH.nil
     go_simp
     have hadd:=Ps B g dm nm _ c ts (n+1) n v st ⟨NA,(ts[n].ae.map Col.name).length,nc,TA,tc,ts[n].ae.map Col.ty⟩ w4 (HIR.out.next hx4) hn h8 hsz HFR.out HTO.out rfl omA
     simp only[List.length_map]at hadd
     (go_at_call 194;(with_reducible refine hadd.mono ?_))
     clear hadd
     rintro e w5 ⟨⟨rfl,v',hI5⟩,hb5,hk5⟩
     have hB5:=hk5 _ _ _ (by decide) (by decide) HB4.out
     have HK5:=qh hk5
     have u0:=hB5.cell 0
     have u1:=hB5.cell 1
     simp only[gE3]at u0 u1
     have HI5:=qh hI5
     clear hI5 hk5 hB5
     go_wp2_with fail
     refine hK.out _ _ ⟨u0,u1⟩ (fun hHeld =>?_)
     clear hK K
     (try simp only[Act.put,gP6])
     refine wpAnyH_done krA ?_ _
     go_wp2_with fail
     go_ret
     exact⟨⟨rfl,v',_,HI5.out⟩,(hxr.trans (hx4.mono hBr)).trans hb5,fun q t cs ht ht' hq=>HK5.out q t cs ht ht' (((HK1.out q t cs hq).below hbr (HK1.out q t cs hq).lt).below hx4 (Nat.lt_of_lt_of_le (HK1.out q t cs hq).lt hwz))⟩
open Go.RowKit Go
structure Kd where
 cnt:Nat
 lim:Int
 f:Nat
def Kd.cells(g:Nat)(x:Kd):List Value:= [.int .i64 x.cnt,.int .i64 x.lim,.func (.func x.f) #[.pointer (some ⟨g,0,none⟩)] #[]]
theorem LP(g:Nat):∀x:Kd,(Kd.cells g x).length=3:=fun _=>rfl
def kinds(n:Nat):List Kd:= [⟨n,8,146⟩,⟨0,12,147⟩,⟨0,16,148⟩,⟨0,16,149⟩,⟨0,16,150⟩,⟨0,16,151⟩,⟨0,16,152⟩,⟨0,16,153⟩]
theorem CY{n m:Nat}(h:m<(kinds n).length)(h0:m≠0):(kinds n)[m].cnt=0:=by
 rcases m with _|m
 ·exact absurd rfl h0
 ·simp only[kinds,List.getElem_cons_succ]
  simp only[kinds,List.length_cons,List.length_nil]at h
  rcases m with _|_|_|_|_|_|_|m
  all_goals first|rfl|omega
theorem Io{n m:Nat}(h8:n≤8)(h:m<(kinds n).length):((kinds n)[m].cnt:Int)≤(kinds n)[m].lim:=by
 simp only[kinds,List.length_cons,List.length_nil]at h
 rcases m with _|_|_|_|_|_|_|_|m
 all_goals first|(simp only[kinds,List.getElem_cons_succ,List.getElem_cons_zero];omega)|omega
theorem Il(w:World)(ts:List Tab):dP Tryz.prog 9 4 (w.alloc (.map #[] 0)) w.heap.size 0 (kL ts 0):=
 (dP.made w _ _ _).eqf fun x kl _=>by
   cases x
   case string s=>simp only[kL];rw[yJ,if_pos (by decide)]
   all_goals rfl
theorem vw(w:World)(ts:List Tab):dP Tryz.prog 9 3 (w.alloc (.map #[] 0)) w.heap.size 0 (nZ ts 0):=
 (dP.made w _ _ _).eqf fun x kl _=>by
   cases x
   case string s=>simp only[nZ];rw[yJ,if_pos (by decide)]
   all_goals rfl
theorem Jn(A:Option Addr)(c m:Nat)(ts:List Tab)(w:World)(ht:aF w w.heap.size A ts)(hm:ts.length=m)(hs:aM ts)(hok:aN ts):
 Calls Tryz.prog 115 #[.agg #[.slice A m c,.slice none 0 0,.slice none 0 0,.slice none 0 0,.slice none 0 0,.slice none 0 0,.slice none 0 0,.slice none 0 0]] w fun e w' =>
  (∃p,e=.returned (.tuple #[p,.int .i64 0,.int .i64 0]))∧Below w.heap.size w w':=by
 subst hm
 have h8:=hok.len
 have HT:=qh ht
 have HS:=qh hs
 have HOK:=qh hok
 clear ht hs hok
 have hmm:= @run_makeMap Tryz.prog
 go_enter Tryz.func115,Tryz.ntmps115
 go_upto_region 2 with (fail)
 clear hmm
 refine ah (P:=fun u=>Code.wp _ _ _ _ u) (R:=fun u=>iD u w.heap.size (w.heap.size+1+1+1) (w.heap.size+1) (w.heap.size+1+1) A c ts 0 0 (.slice none 0 0) []∧Blk u w.heap.size 33 #[.slice A ts.length c,.slice none 0 0,.slice none 0 0,.slice none 0 0,.slice none 0 0,.slice none 0 0,.slice none 0 0,.slice none 0 0]∧Below w.heap.size w u) ⟨?_,?_,?_⟩ ?_
 ·refine⟨Blk.new' spA,?_,?_,aj.nil,fun x hx=>by simp at hx,rfl,fun j hj=>by simp at hj,by omega,by omega,by omega,by omega⟩
  ·have h:=Il (w.alloc (.cells #[.slice A ts.length c,.slice none 0 0,.slice none 0 0,.slice none 0 0,.slice none 0 0,.slice none 0 0,.slice none 0 0,.slice none 0 0] 33)) ts
   rw[show (w.alloc (.cells #[.slice A ts.length c,.slice none 0 0,.slice none 0 0,.slice none 0 0,.slice none 0 0,.slice none 0 0,.slice none 0 0,.slice none 0 0] 33)).heap.size=w.heap.size+1 by simp]at h
   exact(h.alloc _).alloc _
  ·have h:=vw ((w.alloc (.cells #[.slice A ts.length c,.slice none 0 0,.slice none 0 0,.slice none 0 0,.slice none 0 0,.slice none 0 0,.slice none 0 0,.slice none 0 0] 33)).alloc (.map #[] 0)) ts
   rw[show ((w.alloc (.cells #[.slice A ts.length c,.slice none 0 0,.slice none 0 0,.slice none 0 0,.slice none 0 0,.slice none 0 0,.slice none 0 0,.slice none 0 0] 33)).alloc (.map #[] 0)).heap.size=w.heap.size+1+1 by simp]at h
   exact h.alloc _
 ·exact(((Blk.new _ _ _).alloc _).alloc _).alloc _
 ·exact ai
 rintro W ⟨hI,hB,hbW⟩
 obtain⟨p0,p1,p2,p3,p4,p5,p6,p7⟩:=Cat.blk hB
 have HI:=qh hI
 clear hI hB
 go_cut [6] (fun x wc=>x=.slice (some ⟨W.heap.size,0,none⟩) 8 8∧Blk wc W.heap.size 200 ((kinds ts.length).flatMap (Kd.cells (w.heap.size+1+1+1))).toArray∧Below W.heap.size W wc)
 case first =>
  go_wp2_with fail
  go_meet
  exact⟨rfl,(Blk.new _ _ _).eq rfl,by exact ai⟩
 case rest =>
  obtain⟨rfl,hK,hb1⟩:=hcut
  obtain⟨W1,rfl⟩:∃W1:World,W1=wc:=⟨_,rfl⟩
  have hx1:Below w.heap.size w W1:=aa hbW hb1 hbW.size
  have hKl:=hK.lt
  have HK:=qh hK
  have HSK:=qh (Blk.all (LP (w.heap.size+1+1+1)) hK hKl)
  have HI1:=qh (HI.out.next hb1)
  have hzw:=hbW.size
  clear hK p0 p1 p2 p3 p4 p5 p6 p7
  go_upto_region 4 with (fail)
  go_loopw [70] (fun vi wr =>∃m:Nat,m≤8∧vi=.int .i64 m∧Below W1.heap.size W1 wr) (fun vi _ =>8-(intOf vi).toNat)
  case atStart=>exact⟨0,Nat.zero_le _,rfl,Below.refl _ _⟩
  case round =>
   obtain⟨m,hm,rfl,hbr⟩:=hrel
   have hwz:=hbr.size
   by_cases hlt:m<8
   ·have hlk:m<(kinds ts.length).length:=hlt
    obtain⟨b5,o5,hbe,hb5,hc5⟩:=(HSK.out.below hbr).get hlk
    injection hbe with hbe
    injection hbe with vF vE
    subst vF vE
    have x0:=hc5 0 _ rfl
    have x1:=hc5 1 _ rfl
    have x2:=hc5 2 _ rfl
    simp only[Nat.zero_add,Nat.add_zero]at x0 x1 x2
    have hfit:=Io h8 hlk
    have d0:decide ((kinds ts.length)[m].lim<((kinds ts.length)[m].cnt:Int))=false:=by simp;omega
    clear hc5
    go_wp2_with fail
    go_roundw
    case rel=>exact⟨m+1,by omega,by go_num,by exact ai⟩
    case measure=>exact meA
   ·have hlt':decide (m<8)=false:=by simpa using hlt
    obtain rfl:m=8:=by omega
    go_upto_region 11 with (fail)
    have HKr:=qh (HK.out.below hbr hKl)
    have HIr:=qh (HI1.out.next hbr)
    have hxr:Below w.heap.size w wr:=aa hx1 hbr hx1.size
    clear hlt hlt'
    obtain⟨V,rfl⟩:∃V:World,V=wr:=⟨_,rfl⟩
    go_loopw [9,82] (fun vj vi wr =>∃m j:Nat,m≤8∧j≤8∧vj=.int .i64 j∧vi=.int .i64 m∧(m=0→j=0∧iD wr w.heap.size (w.heap.size+1+1+1) (w.heap.size+1) (w.heap.size+1+1) A c ts 0 0 (.slice none 0 0) [])∧Blk wr W.heap.size 200 ((kinds ts.length).flatMap (Kd.cells (w.heap.size+1+1+1))).toArray∧Below w.heap.size w wr) (fun _ vi _ =>8-(intOf vi).toNat)
    case atStart=>exact⟨0,0,by omega,by omega,rfl,rfl,fun _=>⟨rfl,HIr.out⟩,HKr.out,hxr⟩
    case round =>
     obtain⟨m,j,hm,hj,rfl,rfl,hst,hKm,jZ⟩:=hrel
     have Oy:=jZ.size
     have HST:=qh hst
     have R6:=hKm.lt
     have HKM:=qh hKm
     clear hst
     by_cases hlt:m<8
     ·have hlk:m<(kinds ts.length).length:=hlt
      obtain⟨b5,o5,hbe,hb5,hc5⟩:=(Blk.all (LP (w.heap.size+1+1+1)) hKm R6).get hlk
      injection hbe with hbe
      injection hbe with vF vE
      subst vF vE
      have x0:=hc5 0 _ rfl
      have x1:=hc5 1 _ rfl
      have x2:=hc5 2 _ rfl
      simp only[Nat.zero_add,Nat.add_zero]at x0 x1 x2
      clear hc5 hKm
      rcases Nat.eq_zero_or_pos m with h0|h0
      ·subst h0
       obtain⟨hj0,hI0⟩:=HST.out rfl
       have e0:(kinds ts.length)[0]=⟨ts.length,8,146⟩:=rfl
       rw[e0]at x0 x1 x2
       simp only at x0 x1 x2
       have HI0:=qh hI0
       clear hI0 e0
       subst hj0
       go_upto_region 14 with (fail)
       refine ah (P:=fun u=>Code.wp _ _ _ _ u) (R:=fun u=>Blk u wr.heap.size 200 #[.int .i64 ts.length,.int .i64 8,.func (.func 146) #[.pointer (some ⟨w.heap.size+1+1+1,0,none⟩)] #[]]∧Below wr.heap.size wr u) ⟨?_,?_⟩ ?_
       ·exact Blk.new _ _ _
       ·exact ai
       rintro V2 ⟨hD,hbD⟩
       have hDl:=hD.lt
       have HD:=qh hD
       have HI2:=qh (HI0.out.next hbD)
       have HK2:=qh (HKM.out.below hbD R6)
       have hx2:Below w.heap.size w V2:=aa jZ hbD Oy
       clear hD x0 x1 x2 HI0
       go_loopw [9,88] (fun vj vi wi =>∃(i:Nat) (v:Value) (st:List Sto),i≤ts.length∧vj=.int .i64 i∧vi=.int .i64 i∧iD wi w.heap.size (w.heap.size+1+1+1) (w.heap.size+1) (w.heap.size+1+1) A c ts i i v st∧Blk wi wr.heap.size 200 #[.int .i64 ts.length,.int .i64 8,.func (.func 146) #[.pointer (some ⟨w.heap.size+1+1+1,0,none⟩)] #[]]∧Blk wi W.heap.size 200 ((kinds ts.length).flatMap (Kd.cells (w.heap.size+1+1+1))).toArray∧Below w.heap.size w wi) (fun _ vi _=>ts.length-(intOf vi).toNat)
       case atStart=>exact⟨0,_,[],Nat.zero_le _,rfl,rfl,HI2.out,HD.out,HK2.out,hx2⟩
       case round =>
        obtain⟨i,v,st,hi,rfl,rfl,hIi,hDi,hKi,hxi⟩:=hrel
        have d2:=hDi.cell 2
        simp only[gE3]at d2
        have HIi:=qh hIi
        have HDi:=qh hDi
        have HKi:=qh hKi
        have hiz:=hxi.size
        clear hIi hDi hKi
        by_cases hil:i<ts.length
        ·go_wp2_with (go_at_call 146;(with_reducible refine(Jj w.heap.size (w.heap.size+1+1+1) (w.heap.size+1) (w.heap.size+1+1) A c ts i v st _ HIi.out (HT.out.below hxi) HS.out HOK.out hil hiz).mono ?_);rintro e w3 ⟨⟨rfl,v3,st3,hI3⟩,hb3,hk3⟩;have HI3:=qh hI3;have HK3:=qh hk3;clear hI3 hk3)
         go_roundw
         case rel=>exact⟨i+1,v3,st3,by omega,by go_num,by go_num,HI3.out,HK3.out _ _ _ (by decide) (by decide) HDi.out,HK3.out _ _ _ (by decide) (by decide) HKi.out,hxi.trans hb3⟩
         case measure=>exact meA
        ·have Xx:decide (i<ts.length)=false:=by simpa using hil
         go_wp2_with fail
         go_roundw
         case rel =>
          (repeat apply Exists.intro)
          refine⟨?_,rfl⟩
          exact⟨0+1,i,by omega,by omega,rfl,by go_num,fun h=>by omega,HKi.out,hxi⟩
         case measure=>simp[intOf]
      ·have e0:=CY hlk omA
       rw[e0]at x0
       clear HST
       go_upto_region 14 with (fail)
       refine ah (P:=fun u=>Code.wp _ _ _ _ u) (R:=fun u=>Below wr.heap.size wr u) ?_ ?_
       ·exact ai
       rintro V2 hbD
       have HK2:=qh (HKM.out.below hbD R6)
       have hx2:Below w.heap.size w V2:=aa jZ hbD Oy
       clear x0 x1 x2
       go_loopw [9,88] (fun vj vi wi=>vj=.int .i64 j∧vi=.int .i64 0∧V2=wi) (fun _ _ _ =>0)
       case atStart=>exact⟨rfl,rfl,rfl⟩
       obtain⟨rfl,rfl,rfl⟩:=hrel
       go_wp2_with fail
       go_roundw
       case rel =>
        (repeat apply Exists.intro)
        refine⟨?_,rfl⟩
        exact⟨m+1,j,by omega,hj,rfl,by go_num,fun h=>by omega,HK2.out,hx2⟩
       case measure=>exact meA
     ·have hlt':decide (m<8)=false:=by simpa using hlt
      go_wp2_with fail
      go_ret3
      exact⟨⟨_,rfl⟩,jZ⟩
theorem zB(w:World):CallsD Tryz.prog 114 #[] .returning w fun e u' w'=>e=.returned (.tuple #[])∧u'=.returning∧w'=w:=by
 refine callsD_of_wpS Tryz.func114 rfl fun c₀ cs hu =>?_
 apply wpS_region
 cases c₀
 simp_all[wpOpsS,go_sem,recoverD,Tryz.ntmps114,bodyPostS,results,Tryz.results114]
theorem Jo(A:Option Addr)(c m:Nat)(ts:List Tab)(w:World)(ht:aF w w.heap.size A ts)(hm:ts.length=m)(hs:aM ts)(hok:aN ts):
 Calls Tryz.prog 72 #[.agg #[.slice A m c,.slice none 0 0,.slice none 0 0,.slice none 0 0,.slice none 0 0,.slice none 0 0,.slice none 0 0,.slice none 0 0]] w fun e w'=>e=.returned (.bool true)∧Below w.heap.size w w':=by
 have HT:=qh ht
 have HS:=qh hs
 have HOK:=qh hok
 clear ht hs hok
 go_enter_defers Tryz.func72,Tryz.ntmps72
 go_wp2_with (go_at_call 115;(with_reducible refine(Jn A c m ts _ (HT.out.next ai) hm HS.out HOK.out).mono ?_);rintro e w1 ⟨⟨p,rfl⟩,hb1⟩;have hx1:Below w.heap.size w w1:=aa ai hb1 leA)
 refine leaves_cons (f:= 114) (args:= #[]) spA (by simp[go_sem]) ?_;refine(zB _).mono ?_;rintro e u' w'' ⟨rfl,rfl,rfl⟩;refine⟨_,results_tmp rfl _ _ _,?_⟩
 exact⟨rfl,hx1⟩
end Go.Proofs.YtjidligipoldeaaGreat
