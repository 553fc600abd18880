/-
  Contracts and plain laws of this seat, part 9.
-/
import Derived.Maps.Ext
import Derived.Test.YtebippoohpnjkaaGreatN6
import Derived.Test.YtebippoohpnjkaaGreatN7
import Derived.Deep.RegionHeld3
import Derived.Laws.EntriesVeiled
set_option linter.unusedVariables false
set_option linter.unusedSimpArgs false
set_option maxRecDepth 100000
set_option maxHeartbeats 16000000
namespace Go.Proofs.YtebippoohpnjkaaGreat
open Go.RowKit Go
open Go.Maps (Keyed)
theorem qH{P:Program}{e:TypeId}{u v:Value}{d:DataW Unit}{p q:List MemPlace}(hu:plainElem P e u=some (d,p))(hv:plainElem P e v=some (d,q)):u=v:=by
 cases hP:P.underlying e with
 | none=>simp[plainElem,hP]at hu
 | some td =>
   cases td<;>cases u<;>simp[plainElem,hP]at hu<;>cases v<;>simp[plainElem,hP]at hv
   ·rw[←hv.1]at hu
    simpa using hu.1
   ·obtain⟨⟨rfl,_⟩,h1,_⟩:=hu
    obtain⟨⟨rfl,_⟩,h2,_⟩:=hv
    rw[←h2]at h1
    simpa using h1
   ·obtain⟨_,h1,_⟩:=hu
    obtain⟨_,h2,_⟩:=hv
    rw[←h2]at h1
    injection h1 with h1
    injection h1 with h1
    exact congrArg Value.string (ByteArray.ext (Array.toList_inj.1 h1))
def cO(P:Program)(k e:TypeId)(w:World)(b n:Nat)(f:Value→Option Value):Prop:=
 ∃D:DataW Unit,w.ownsMap P k (plainElem P e) b n D ∧ ∀x kl,Go.keyOf P k x=some kl →
  (f x=none→Maps.has D kl=false) ∧ ∀y,f x=some y→Maps.has D kl=true ∧ ∃d,plainElem P e y=some (d,[]) ∧ ∀z,D.atKey kl z=d
section
variable {P:Program}{k e t:TypeId}{w:World}{b n:Nat}{f:Value→Option Value}
theorem cO.made(w:World)(P:Program)(k e:TypeId):cO P k e (w.alloc (.map #[] 0)) w.heap.size 0 (fun _=>none):=
 ⟨.map [],World.ownsMap_made w P k _,fun x kl _=>⟨fun _=>rfl,fun y h=>by cases h⟩⟩
theorem cO.lt(h:cO P k e w b n f):b<w.heap.size:=by obtain⟨D,h,_⟩:=h;exact h.lt
theorem cO.mono(h:cO P k e w b n f){m:Nat}(hm:n≤m):cO P k e w b m f:=by obtain⟨D,h,h'⟩:=h;exact⟨D,h.mono hm,h'⟩
theorem cO.kept{w':World}{row:Option Nat}(h:cO P k e w b n f)(hg:w.grownBy w' row)(hne:some b≠row):cO P k e w' b n f:=by obtain⟨D,h,h'⟩:=h;exact⟨D,h.kept hg hne,h'⟩
theorem cO.alloc(h:cO P k e w b n f)(o:Obj):cO P k e (w.alloc o) b n f:=by obtain⟨D,h,h'⟩:=h;exact⟨D,h.alloc o,h'⟩
theorem cO.drew(h:cO P k e w b n f):cO P k e w.drew b n f:=h
theorem cO.setCell(h:cO P k e w b n f){a:Addr}(ha:b≠a.block)(u:Value):cO P k e (w.setCell a u) b n f:=by obtain⟨D,h,h'⟩:=h;exact⟨D,h.setCell ha u,h'⟩
theorem cO.below{w':World}{B:Nat}(h:cO P k e w b n f)(hb:Below B w w')(hB:b<B):cO P k e w' b n f:=by
 obtain⟨D,⟨es,clock,hs,F⟩,h'⟩:=h
 exact⟨D,⟨es,clock,(hb.block b hB).trans hs,F⟩,h'⟩
theorem cO.eqf(h:cO P k e w b n f){g:Value→Option Value}(hg:∀x kl,Go.keyOf P k x=some kl→g x=f x):cO P k e w b n g:=by
 obtain⟨D,h,h'⟩:=h
 exact⟨D,h,fun x kl hx=>by rw[hg x kl hx];exact h' x kl hx⟩
theorem cO.look(h:cO P k e w b n f)(K:Keyed P k)(ht:P.underlying t=some (.map k e)){z:Value}(hz:(zeroValue e).run P w=.ok z w){zd:DataW Unit}(hzd:plainElem P e z=some (zd,[])){x:Value}{kl:Lit}(hx:Go.keyOf P k x=some kl):
 (Instr.lookup t (.map (some b)) x false).run P w=.ok ((f x).getD z) w:=by
 obtain⟨D,h,h'⟩:=h
 obtain⟨v,ps,hrun,hv⟩:=h.lookup K ht hz hzd hx
 rw[hrun]
 cases hf:f x with
 | none =>
   rw[Maps.atKey_of_not_has ((h' x kl hx).1 hf)]at hv
   rw[qH hv hzd]
   rfl
 | some y =>
   obtain⟨_,d,hd,hat⟩:=(h' x kl hx).2 y hf
   rw[hat]at hv
   rw[qH hv hd]
   rfl
theorem cO.look_ok(h:cO P k e w b n f)(K:Keyed P k)(ht:P.underlying t=some (.map k e)){z:Value}(hz:(zeroValue e).run P w=.ok z w){zd:DataW Unit}(hzd:plainElem P e z=some (zd,[])){x:Value}{kl:Lit}(hx:Go.keyOf P k x=some kl):
 (Instr.lookup t (.map (some b)) x true).run P w=.ok (.tuple #[(f x).getD z,.bool (f x).isSome]) w:=by
 obtain⟨D,h,h'⟩:=h
 obtain⟨v,ps,hrun,hv⟩:=h.look_ok K ht hz hzd hx
 rw[hrun]
 cases hf:f x with
 | none =>
   have hn:=(h' x kl hx).1 hf
   rw[Maps.atKey_of_not_has hn]at hv
   rw[qH hv hzd,hn]
   rfl
 | some y =>
   obtain⟨hh,d,hd,hat⟩:=(h' x kl hx).2 y hf
   rw[hat]at hv
   rw[qH hv hd,hh]
   rfl
theorem cO.store(h:cO P k e w b n f)(K:Keyed P k)(ht:P.underlying t=some (.map k e))(hn:n<maxLen){x y:Value}{kl:Lit}(hx:Go.keyOf P k x=some kl){d:DataW Unit}(hy:plainElem P e y=some (d,[])):
 ∃w',(Instr.mapUpdate t (.map (some b)) x y).run P w=.ok () w'∧(∀f',f' x=some y→(∀u,u≠x→f' u=f u)→cO P k e w' b (n+1) f')∧w.grownBy w' (some b):=by
 obtain⟨D,h,h'⟩:=h
 obtain⟨w',hrun,ho,hg⟩:=h.update K ht hn hx hy
 refine⟨w',hrun,fun f' h1 h2=>⟨_,ho,fun u ul hu =>?_⟩,hg⟩
 have hD:=h.isMap
 have hkl:=K.key hx
 by_cases hux:u=x
 ·subst hux
  rw[hx]at hu
  injection hu with hu
  subst hu
  rw[h1]
  refine⟨fun h=>(Option.some_ne_none _ h).elim,fun y' hy' =>?_⟩
  injection hy' with hy'
  subst hy'
  exact⟨Maps.has_put_same hD hkl d,d,hy,fun z=>Maps.atKey_put_same hD hkl d z⟩
 ·have hne:ul≠kl:=fun e=>hux (K.inj hu (by rw[e];exact hx))
  rw[h2 u hux]
  refine⟨fun hf=>by rw[Maps.has_put_other hne];exact(h' u ul hu).1 hf,fun y' hf =>?_⟩
  obtain⟨hh,d',hd',hat⟩:=(h' u ul hu).2 y' hf
  exact⟨by rw[Maps.has_put_other hne];exact hh,d',hd',fun z=>by rw[Maps.atKey_put_other hne];exact hat z⟩
end
/-! ### at the operation, for the walk -/
section
variable {P:Program}(w:World) {ops:Array Oper}{rest:List Oper}{o:Oper}{a:Act}{Q:Exit→Act→World→Prop}
theorem sV(hg:o.guard=none)(m x:Operand)(t:TypeId)(hop:o.op=Op.lookup t m x false)(k e:TypeId)(K:Keyed P k)(ht:P.underlying t=some (.map k e))(z:Value)(hz:∀u,(zeroValue e).run P u=.ok z u)(zd:DataW Unit)(hzd:plainElem P e z=some (zd,[]))
 (b n:Nat) (f:Value→Option Value) (hm:a.eval m=.map (some b)) (hown:cO P k e w b n f) (key:Value) (kl:Lit) (hx:a.eval x=key) (hkey:Go.keyOf P k key=some kl)
 (r:Value) (hr:(f key).getD z=r) (hK:wpList P ops Q rest (a.put o.dst r) w):wpList P ops Q (o::rest) a w:=by
 subst hr
 refine wpList_plain hg fun K' hK' =>?_
 have hrun:=hown.look K ht (hz w) hzd hkey
 unfold Oper.wp
 simp[execOp,hop,hm,hx,hrun,Result.andThen]
 exact hK' _ _ hK
theorem pg(hg:o.guard=none)(m x:Operand)(t:TypeId)(hop:o.op=Op.lookup t m x true)(k e:TypeId)(K:Keyed P k)(ht:P.underlying t=some (.map k e))(z:Value)(hz:∀u,(zeroValue e).run P u=.ok z u)(zd:DataW Unit)(hzd:plainElem P e z=some (zd,[]))
 (b n:Nat) (f:Value→Option Value) (hm:a.eval m=.map (some b)) (hown:cO P k e w b n f) (key:Value) (kl:Lit) (hx:a.eval x=key) (hkey:Go.keyOf P k key=some kl)
 (r:Value) (c:Bool) (hr:(f key).getD z=r) (hc:(f key).isSome=c) (hK:wpList P ops Q rest (a.put o.dst (.tuple #[r,.bool c])) w):wpList P ops Q (o::rest) a w:=by
 subst hr hc
 refine wpList_plain hg fun K' hK' =>?_
 have hrun:=hown.look_ok K ht (hz w) hzd hkey
 unfold Oper.wp
 simp[execOp,hop,hm,hx,hrun,Result.andThen]
 exact hK' _ _ hK
theorem mV(hg:o.guard=none)(m x v:Operand)(t:TypeId)(hop:o.op=Op.mapUpdate t m x v)(k e:TypeId)(K:Keyed P k)(ht:P.underlying t=some (.map k e))
 (b n:Nat) (f:Value→Option Value) (hm:a.eval m=.map (some b)) (hown:cO P k e w b n f) (hn:n<maxLen) (key:Value) (kl:Lit) (hx:a.eval x=key) (hkey:Go.keyOf P k key=some kl) (y:Value) (hv:a.eval v=y) (d:DataW Unit) (hy:plainElem P e y=some (d,[]))
 (f':Value→Option Value) (h1:f' key=some y) (h2:∀u,u≠key→f' u=f u)
 (hK:∀w',cO P k e w' b (n+1) f'→w.grownBy w' (some b)→wpList P ops Q rest (a.put o.dst undef) w'):wpList P ops Q (o::rest) a w:=by
 refine wpList_plain hg fun K' hK' =>?_
 obtain⟨w',hrun,r1,r2⟩:=hown.store K ht hn hkey hy
 unfold Oper.wp
 simp[execOp,hop,hm,hx,hv,hrun,Result.andThen]
 exact hK' _ _ (hK w' (r1 f' h1 h2) r2)
end
open Go.RowKit Go
open Go.Maps (Keyed)
theorem D5{s:ByteArray}:∀ {l:List ByteArray}{n k:Nat},findA s l n k=-1∨(k:Int)≤findA s l n k
 | [],_,_ =>.inl (by simp[findA])
 | _::_,0,_ =>.inl (by simp[findA])
 | x::l,n + 1,k=>by
   simp only[findA]
   split
   ·exact .inr (Int.le_refl _)
   ·rcases D5 (s:=s) (l:=l) (n:=n) (k:=k+1) with h|h
    ·exact .inl h
    ·exact .inr omA
theorem yF{s:ByteArray}:∀ {l:List ByteArray}{n k:Nat}(h:n<l.length),findA s l (n+1) k=if findA s l n k<0 then (if l[n]=s then ((k+n:Nat):Int) else -1) else findA s l n k
 | x::l,0,k,h=>by
   have h0:findA s l 0 (k+1)=-1:=by cases l<;>simp[findA]
   simp[findA,h0]
 | x::l,n + 1,k,h=>by
   have ih:=yF (s:=s) (l:=l) (n:=n) (k:=k+1) (by simpa using h)
   by_cases hx:x=s
   ·have h1:¬ ((k:Int)<0):=by omega
    simp[findA,hx,h1]
   ·have h2:findA s (x::l) (n+1) k=findA s l n (k+1):=by simp[findA,hx]
    have h3:findA s (x::l) (n+1+1) k=findA s l (n+1) (k+1):=by rw[findA,if_neg hx]
    rw[h2,h3,ih,List.getElem_cons_succ,show k+1+n=k+(n+1) by omega]
theorem yD{ts:List Tab}{s:ByteArray}{n:Nat}(hn:n≤ts.length):bD ts s (n:Int)=findA s (ts.map Tab.name) n 0:=by
 unfold bD eX
 rw[show (min (n:Int) (ts.length:Int)).toNat=n by omega]
theorem yC{ts:List Tab}{s:ByteArray}{n:Nat}(hn:n<ts.length):bD ts s ((n+1:Nat):Int)=if bD ts s (n:Int)<0 then (if ts[n].name=s then (n:Int) else -1) else bD ts s (n:Int):=by
 rw[yD hn,yD (Nat.le_of_lt hn),yF (by simpa using hn)]
 simp
theorem Ai{ts:List Tab}{s:ByteArray}{n:Int}(h:bD ts s n<0):bD ts s n=-1:=by
 unfold bD eX at h ⊢
 rcases D5 (s:=s) (l:=ts.map Tab.name) (n:=(min n (ts.length:Int)).toNat) (k:= 0) with h1|h1
 ·exact h1
 ·omega
theorem FI(ts:List Tab)(s:ByteArray):bD ts s ((0:Nat):Int)=-1:=by
 rw[yD (Nat.zero_le _)]
 cases ts<;>simp[findA]
def numF(ts:List Tab)(n:Nat):Value→Option Value
 | .string s=>if bD ts s (n:Int)<0 then none else some (.int .i64 (bD ts s (n:Int)))
 | _=>none
theorem Dr{ts:List Tab}{n:Nat}(hn:n<ts.length)(hf:bD ts ts[n].name (n:Int)<0):numF ts (n+1) (.string ts[n].name)=some (.int .i64 n):=by
 simp only[numF]
 rw[yC hn,if_pos hf,if_pos rfl,if_neg omA]
theorem Dq{ts:List Tab}{n:Nat}(hn:n<ts.length){u:Value}(hu:u≠.string ts[n].name):numF ts (n+1) u=numF ts n u:=by
 cases u
 case string s =>
  have hs:ts[n].name≠s:=fun e=>hu (by rw[e])
  simp only[numF]
  rw[yC hn,if_neg hs]
  by_cases h:bD ts s (n:Int)<0
  ·rw[if_pos h,if_pos h,if_pos omA]
  ·rw[if_neg h,if_neg h]
 all_goals rfl
theorem nW{s:ByteArray}(hs:s.size≤1000000):Go.keyOf Tryz.prog 9 (.string s)=some (.string s.data.toList):=WideMaps.keyOf_string_mk Tryz.underlying9 (by unfold maxLen;omega)
theorem jb:Keyed Tryz.prog 9:=Maps.string_keyed Tryz.underlying9
theorem Ch(u:World):(zeroValue 3).run Tryz.prog u=.ok (.int .i64 0) u:=by kernel_rfl
theorem nD(u:World):(zeroValue 4).run Tryz.prog u=.ok (.bool false) u:=by kernel_rfl
theorem Bj{a:Int}(h:(Lit.int .i64 a).wf=true):plainElem (H:=Unit) Tryz.prog 3 (.int .i64 a)=some (.lit (.int .i64 a),[]):=Go.plainElem_int Tryz.underlying3 h
theorem mO(b:Bool):plainElem (H:=Unit) Tryz.prog 4 (.bool b)=some (.lit (.bool b),[]):=Go.plainElem_bool Tryz.underlying4 b
theorem Chk.blk{w:World}{g:Nat}{a0 a1 a2 a3 a4 a5 a6 a7 a8 a9 a10:Value}(k:Blk w g 208 #[a0,a1,a2,a3,a4,a5,a6,a7,a8,a9,a10]):
 w.cell? ⟨g,0,none⟩=some a0∧w.cell? ⟨g,8,none⟩=some a8∧w.cell? ⟨g,9,none⟩=some a9∧w.cell? ⟨g,10,none⟩=some a10:=⟨k.cell 0,k.cell 8,k.cell 9,k.cell 10⟩
theorem aH(x a b:Int)(w:World){r:Bool}(hr:aG x a b=r):Calls Tryz.prog 188 #[.int .i64 x,.int .i64 a,.int .i64 b] w fun e w'=>e=.returned (.bool r)∧w=w':=by
 subst hr
 cases h1:decide (a≤x)
 ·go_enter Tryz.func188,Tryz.ntmps188
  go_wp2_with fail
  go_ret
  exact⟨aC (by simp[aG,h1]),rfl⟩
 ·cases h2:decide (x≤b)
  ·go_enter Tryz.func188,Tryz.ntmps188
   go_wp2_with fail
   go_ret
   exact⟨aC (by simp[aG,h1,h2]),rfl⟩
  ·go_enter Tryz.func188,Tryz.ntmps188
   go_wp2_with fail
   go_ret
   exact⟨aC (by simp[aG,h1,h2]),rfl⟩
theorem oI(x:Int)(w:World){r:Bool}(hr:(x == 1||x == 2)=r):Calls Tryz.prog 230 #[.int .i64 x] w fun e w'=>e=.returned (.bool r)∧w=w':=by
 subst hr
 cases h1:(x == 1)
 ·cases h2:(x == 2)
  ·go_enter Tryz.func230,Tryz.ntmps230
   go_wp2_with fail
   go_ret
   exact⟨rfl,rfl⟩
  ·go_enter Tryz.func230,Tryz.ntmps230
   go_wp2_with fail
   go_ret
   exact⟨rfl,rfl⟩
 ·go_enter Tryz.func230,Tryz.ntmps230
  go_wp2_with fail
  go_ret
  exact⟨by simp,rfl⟩
open Go.RowKit Go
theorem K7(x:Col)(w:World):Calls Tryz.prog 192 #[.agg #[.string x.name,.int .i64 x.ty,.string x.ns,.string x.refs,.slice x.A x.own.length x.cap,.int .i64 x.joint,.int .i64 x.cu]] w fun e w'=>e=.returned (.string x.name)∧Below w.heap.size w w':=by
 go_enter Tryz.func192,Tryz.ntmps192
 go_wp2_with fail
 go_ret
 exact⟨rfl,by exact av⟩
theorem K6(x:Col)(w:World):Calls Tryz.prog 194 #[.agg #[.string x.name,.int .i64 x.ty,.string x.ns,.string x.refs,.slice x.A x.own.length x.cap,.int .i64 x.joint,.int .i64 x.cu]] w fun e w'=>e=.returned (.int .i64 x.ty)∧Below w.heap.size w w':=by
 go_enter Tryz.func194,Tryz.ntmps194
 go_wp2_with fail
 go_ret
 exact⟨rfl,by exact av⟩
theorem zM(A:Option Addr)(c n:Nat)(af:List Col)(w:World)(hC:ah w w.heap.size Col.cells 7 A af)(hcn:af.length=n)(hn:n≤1000000):
 Calls Tryz.prog 191 #[.slice A n c,.func (.func 192) #[] #[]] w fun e w'=>(∃v,e=.returned v∧aB w' w.heap.size 9 strCells 1 v (af.map Col.name))∧Below w.heap.size w w':=by
 subst hcn
 obtain⟨i0,hi0,hz0,hz1,hz2⟩:=info_parts Gf
 have HC:=qh hC
 clear hC
 go_enter Tryz.func191,Tryz.ntmps191
 go_wp2_with fail
 obtain⟨wo,rfl⟩:∃wo:World,wo=w:=⟨_,rfl⟩
 go_loopw [5,10] (fun vo vi wr =>∃m:Nat,m≤af.length∧vi=.int .i64 m∧aB wr wo.heap.size 9 strCells 1 vo ((af.take m).map Col.name)∧Below wo.heap.size wo wr) (fun _ vi _=>af.length-(intOf vi).toNat)
 case atStart=>exact⟨0,Nat.zero_le _,rfl,aB.nil,by exact av⟩
 case round =>
  obtain⟨m,hm,rfl,hown,hbr⟩:=hrel
  have hwz:=hbr.size
  have hrow:=hown.row
  have HOWN:=qh hown
  clear hown
  by_cases hlt:m<af.length
  ·obtain⟨b5,o5,rfl,hb5,hc5⟩:=(HC.out.below hbr).get hlt
   obtain⟨h0,h1,h2,h3,h4,h5,h6⟩:=Col.dz hc5
   have HML:Hid (((af.take m).map Col.name).length=m):=qh smA
   clear hc5
   go_wp2_with (first
    | (go_at_call 192;(with_reducible refine(K7 af[m] _).mono ?_);rintro e w1 ⟨rfl,hb1⟩;have hx1:Below wo.heap.size wo w1:=ae av hb1 leA;have hO1:aB w1 wo.heap.size 9 strCells 1 u5 ((af.take m).map Col.name):=(HOWN.out.below brf nlr).below (ae av hb1 leA) nlr;have HO1:=qh hO1;clear hO1 hb1)
    | (at_builtin;go_must (refine aJ _ rfl (.tmp 14) (.tmp 18) 109 rfl 9 i0 _ strCells 1 16 Tryz.underlying109 hi0 hz0 hz1 hz2 rfl omA j5 mG wo.heap.size u5 ((af.take m).map Col.name) rfl (HO1.out.alloc _) _ _ _ [Col.name af[m]] rfl rfl (Blk.one (enc:=strCells) (x:=Col.name af[m]) (Blk.new' rfl) spA) (by rw[HML.out];simp;omega) (by rw[HML.out];simp[maxLen];omega) (by have:=hx1.size;simp;omega) ?_);intro v' w3 hown' hg' hat';have HOWN':=qh hown';clear hown';have hbel:Below wo.heap.size wo w3:=Below.grown (hx1.alloc (by have:=hx1.size;omega) _) hg' (by have:=hx1.size;simp;omega) hrow))
   go_roundw
   case rel=>exact⟨m+1,by omega,by go_num,by rw[List.take_succ_eq_append_getElem hlt,List.map_append];exact HOWN'.out,hbel⟩
   case measure=>exact meA
  ·have hlt':decide (m<af.length)=false:=by simpa using hlt
   obtain rfl:m=af.length:=by omega
   have ho:=HOWN.out
   rw[List.take_length]at ho
   have HO:=qh ho
   clear ho
   go_wp2_with fail
   go_ret
   exact⟨⟨_,rfl,HO.out⟩,hbr⟩
theorem zL(A:Option Addr)(c n:Nat)(af:List Col)(w:World)(hC:ah w w.heap.size Col.cells 7 A af)(hcn:af.length=n)(hn:n≤1000000):
 Calls Tryz.prog 193 #[.slice A n c,.func (.func 194) #[] #[]] w fun e w'=>(∃v,e=.returned v∧aB w' w.heap.size 3 intCells 1 v (af.map Col.ty))∧Below w.heap.size w w':=by
 subst hcn
 obtain⟨i0,hi0,hz0,hz1,hz2⟩:=info_parts Gg
 have HC:=qh hC
 clear hC
 go_enter Tryz.func193,Tryz.ntmps193
 go_wp2_with fail
 obtain⟨wo,rfl⟩:∃wo:World,wo=w:=⟨_,rfl⟩
 go_loopw [5,10] (fun vo vi wr =>∃m:Nat,m≤af.length∧vi=.int .i64 m∧aB wr wo.heap.size 3 intCells 1 vo ((af.take m).map Col.ty)∧Below wo.heap.size wo wr) (fun _ vi _=>af.length-(intOf vi).toNat)
 case atStart=>exact⟨0,Nat.zero_le _,rfl,aB.nil,by exact av⟩
 case round =>
  obtain⟨m,hm,rfl,hown,hbr⟩:=hrel
  have hwz:=hbr.size
  have hrow:=hown.row
  have HOWN:=qh hown
  clear hown
  by_cases hlt:m<af.length
  ·obtain⟨b5,o5,rfl,hb5,hc5⟩:=(HC.out.below hbr).get hlt
   obtain⟨h0,h1,h2,h3,h4,h5,h6⟩:=Col.dz hc5
   have HML:Hid (((af.take m).map Col.ty).length=m):=qh smA
   clear hc5
   go_wp2_with (first
    | (go_at_call 194;(with_reducible refine(K6 af[m] _).mono ?_);rintro e w1 ⟨rfl,hb1⟩;have hx1:Below wo.heap.size wo w1:=ae av hb1 leA;have hO1:aB w1 wo.heap.size 3 intCells 1 u5 ((af.take m).map Col.ty):=(HOWN.out.below brf nlr).below (ae av hb1 leA) nlr;have HO1:=qh hO1;clear hO1 hb1)
    | (at_builtin;go_must (refine aJ _ rfl (.tmp 14) (.tmp 18) 22 rfl 3 i0 _ intCells 1 8 Tryz.underlying22 hi0 hz0 hz1 hz2 rfl omA bn dL wo.heap.size u5 ((af.take m).map Col.ty) rfl (HO1.out.alloc _) _ _ _ [Col.ty af[m]] rfl rfl (Blk.one (enc:=intCells) (x:=Col.ty af[m]) (Blk.new' rfl) spA) (by rw[HML.out];simp;omega) (by rw[HML.out];simp[maxLen];omega) (by have:=hx1.size;simp;omega) ?_);intro v' w3 hown' hg' hat';have HOWN':=qh hown';clear hown';have hbel:Below wo.heap.size wo w3:=Below.grown (hx1.alloc (by have:=hx1.size;omega) _) hg' (by have:=hx1.size;simp;omega) hrow))
   go_roundw
   case rel=>exact⟨m+1,by omega,by go_num,by rw[List.take_succ_eq_append_getElem hlt,List.map_append];exact HOWN'.out,hbel⟩
   case measure=>exact meA
  ·have hlt':decide (m<af.length)=false:=by simpa using hlt
   obtain rfl:m=af.length:=by omega
   have ho:=HOWN.out
   rw[List.take_length]at ho
   have HO:=qh ho
   clear ho
   go_wp2_with fail
   go_ret
   exact⟨⟨_,rfl,HO.out⟩,hbr⟩
theorem Ir(A:Option Addr)(c n:Nat)(l:List Int)(x:Int)(w:World)(hl:ah w w.heap.size intCells 1 A l)(hln:l.length=n)(hn:n≤1000000):
 Calls Tryz.prog 249 #[.slice A n c,.int .i64 x] w fun e w'=>(∃k:Int,e=.returned (.int .i64 k)∧(0≤k↔x∈l))∧w=w':=by
 subst hln
 have HL:=qh hl
 clear hl
 go_enter Tryz.func249,Tryz.ntmps249
 go_wp2
 go_loopw [8] (fun vi wr =>∃m:Nat,m≤l.length∧vi=.int .i64 m∧w=wr∧(∀i (h:i<l.length),i<m→l[i]≠x)) (fun vi _=>l.length-(intOf vi).toNat)
 case atStart=>exact⟨0,Nat.zero_le _,rfl,rfl,fun i _ h=>by omega⟩
 case round =>
  obtain⟨m,hm,rfl,rfl,hok⟩:=hrel
  have HOK:=qh hok
  clear hok
  by_cases hlt:m<l.length
  ·obtain⟨b5,o5,rfl,hb5,hc5⟩:=HL.out.get hlt
   have x0:=hc5 0 _ rfl
   simp only[Nat.mul_one,Nat.add_zero]at x0
   clear hc5
   cases he:(x==l[m])
   ·have HE:Hid (l[m]≠x):=qh (by have h:¬ x=l[m]:=(by simpa using he);exact fun e=>h e.symm)
    go_wp2_with fail
    clear he
    go_roundw
    case rel=>exact⟨m+1,by omega,by go_num,trivial,fun i h hi=>by
     rcases Nat.lt_or_ge i m with h1|h1
     ·exact HOK.out i h h1
     ·obtain rfl:i=m:=by omega
      exact HE.out⟩
    case measure=>exact meA
   ·have HE:Hid (x∈l):=qh (by have h:x=l[m]:=(by simpa using he);rw[h];exact lgm hlt)
    go_wp2_with fail
    go_ret
    exact⟨⟨_,rfl,fun _=>HE.out,fun _=>by omega⟩,rfl⟩
  ·have hlt':decide (m<l.length)=false:=by simpa using hlt
   go_wp2_with fail
   go_ret
   refine⟨⟨_,rfl,fun h=>by omega,fun h =>?_⟩,rfl⟩
   obtain⟨i,hi,he⟩:=List.getElem_of_mem h
   exact absurd he (HOK.out i hi omA)
theorem uz(A:Option Addr)(c n:Nat)(l:List Int)(x:Int)(w:World)(hl:ah w w.heap.size intCells 1 A l)(hln:l.length=n)(hn:n≤1000000){r:Bool}(hr:decide (x∈l)=r):
 Calls Tryz.prog 216 #[.slice A n c,.int .i64 x] w fun e w'=>e=.returned (.bool r)∧w=w':=by
 subst hr
 have HL:=qh hl
 clear hl
 go_enter Tryz.func216,Tryz.ntmps216
 go_wp2_with fail
 with_reducible refine(Ir A c n l x _ HL.out hln hn).mono ?_
 rintro e w1 ⟨⟨k,rfl,hk⟩,rfl⟩
 have HK:=qh hk
 clear hk
 go_wp2_with fail
 go_ret
 refine⟨aC ?_,rfl⟩
 rw[Bool.eq_iff_iff,decide_eq_true_iff,decide_eq_true_iff]
 exact HK.out
open Go.RowKit Go
structure Sto where
 NA:Option Addr
 nl:Nat
 nc:Nat
 TA:Option Addr
 tc:Nat
 ty:List Int
def Sto.cells(x:Sto):List Value:= [.slice x.NA x.nl x.nc,.slice x.TA x.ty.length x.tc]
theorem F3:∀x:Sto,(Sto.cells x).length=2:=fun _=>rfl
theorem LV:∀x:Sto,∀u∈Sto.cells x,u.oneCell'=true:=by
 intro x u hu
 simp only[Sto.cells,List.mem_cons,List.not_mem_nil,or_false]at hu
 rcases hu with rfl|rfl<;>rfl
theorem dX(s:ByteArray)(w:World)(hs:s.size≤1000000){r:Bool}(hr:dn s=r):
 Calls Tryz.prog 227 #[.string s] w fun e w'=>e=.returned (.bool r)∧w=w':=by
 subst hr
 exact ku s w hs
theorem Du{s:ByteArray}(h:dn s=true):s≠⟨#[]⟩:=by
 rintro rfl
 exact absurd h (by decide)
theorem aY.Bo{ts:List Tab}(h:aY ts){n:Nat}(hn:n≤ts.length):bD ts ⟨#[]⟩ (n:Int)=-1:=by
 unfold bD
 refine iB fun i hi hin e =>?_
 have hi':i<ts.length:=by simpa using hi
 exact Du (h.tab i hi').name (by simpa using e)
theorem aY.N8{ts:List Tab}(h:aY ts){n:Nat}(hn:n<ts.length):bD ts ts[n].name (n:Int)<0:=by
 unfold bD
 rw[iB fun i hi hin e =>?_]
 ·decide
 ·have hi':i<ts.length:=by simpa using hi
  exact(h.tab n hn).fresh i omA (by simpa using e)
structure Tp (ts:List Tab) (af:List Col) (er rt:Int) (i:Nat) (x:Col) (tg:Int):Prop where
 name:dn x.name=true
 ns:x.ns=⟨#[]⟩∨(x.ns≠⟨#[]⟩∧dn x.ns=true)
 fresh:∀y∈af.take i,y.name≠x.name
 refs:(x.refs=⟨#[]⟩∧tg=-1)∨(x.refs≠⟨#[]⟩∧x.ns=⟨#[]⟩ ∧ 0≤tg)
 ty:(x.ty == 1||x.ty == 2)=true
 tty:0≤tg→ym ts tg=x.ty
 own:dV af x.own
 joint:aG x.joint 0 1=true
 cu:aG x.cu 0 1048576=true
 none_:x.own.length=0→x.joint=0∧x.cu=0
 ret:rt=0∨x.cu≤rt
 first:i=0→0<x.own.length→er=1
 reach:0≤tg→0<(qK ts tg).length→(i:Int)∈x.own
theorem aY.Ny{ts:List Tab}(h:aY ts){n:Nat}(hn:n<ts.length){i:Nat}(hi:i<ts[n].af.length):Tp ts ts[n].af ts[n].erase ts[n].cK i ts[n].af[i] (bD ts ts[n].af[i].refs (n:Int)):=by
 obtain⟨h1,h2,h3,h4,h5,h6,h7⟩:=qj (h.col hn hi)
 obtain⟨x,hx⟩:∃x,ts[n].af[i]=x:=⟨_,rfl⟩
 rw[hx]at h1 h2 h3 h4 h5 h6 h7 ⊢
 unfold cE1 at h1
 unfold cE2 at h2
 unfold cE3 at h3
 unfold cE4 at h4
 unfold cE5 at h5
 unfold cE6 at h6
 unfold cE7 at h7
 simp only[Bool.or_eq_false_iff,Bool.and_eq_false_iff,Bool.not_eq_false']at h1 h3 h4 h5 h6 h7
 have hrefs:(x.refs=⟨#[]⟩∧bD ts x.refs (n:Int)=-1)∨(x.refs≠⟨#[]⟩∧x.ns=⟨#[]⟩ ∧ 0≤bD ts x.refs (n:Int)):=by
  by_cases hr:x.refs=⟨#[]⟩
  ·exact .inl ⟨hr,by rw[hr];exact h.Bo (Nat.le_of_lt hn)⟩
  ·refine .inr ⟨hr,?_,?_⟩
   ·refine Classical.byContradiction fun hne =>?_
    rcases h5.1.1.1 with h|h
    ·rw[kE hne]at h;cases h
    ·rw[kE hr]at h;cases h
   ·rcases h3 with h|h
    ·rw[kE hr]at h;cases h
    ·simpa using h
 have hrs:0≤bD ts x.refs (n:Int)→x.refs.toList.isEmpty=false:=by
  intro h0
  rcases hrefs with ⟨_,h⟩|⟨h,_⟩
  ·omega
  ·exact kE h
 refine⟨h1.1,?_,?_,hrefs,?_,?_,eF.1 h5.1.1.2,h5.1.2,h6.1.1,?_,?_,?_,?_⟩
 ·by_cases hne:x.ns=⟨#[]⟩
  ·exact .inl hne
  ·refine .inr ⟨hne,?_⟩
   rcases h1.2 with h|h
   ·rw[kE hne]at h;cases h
   ·exact h
 ·intro y hy e
  obtain⟨k,hk,he⟩:=List.getElem_of_mem hy
  rw[List.getElem_take]at he
  have hk':k<i:=by simp at hk;omega
  have h3:=aW (p:= ∃k,∃h:k<ts[n].af.length,k<i∧ts[n].af[k].name=x.name) ⟨k,by omega,hk',by rw[he,e]⟩
  rw[h2]at h3
  cases h3
 ·have:=h4.1
  simp only[bne_eq_false_iff_eq]at this
  rcases this with h|h
  ·simp[h]
  ·simp[h]
 ·intro h0
  rcases h4.2 with (h|h)|h
  ·rw[decide_eq_false_iff_not]at h;omega
  ·rw[hrs h0]at h;cases h
  ·simpa using h
 ·intro h0
  rcases h5.2 with h|h
  ·rw[beq_eq_false_iff_ne]at h;omega
  ·simpa using h
 ·rcases h6.1.2 with h|h
  ·exact .inl (by simpa using h)
  ·exact .inr (by simpa using h)
 ·intro h0 h1
  rcases h6.2 with (h|h)|h
  ·rw[beq_eq_false_iff_ne]at h;omega
  ·rw[decide_eq_false_iff_not]at h;omega
  ·simpa using h
 ·intro h0 h1
  rcases h7 with (h|h)|h
  ·rw[hrs h0]at h;cases h
  ·rw[decide_eq_false_iff_not]at h;omega
  ·simpa using h
open Go.RowKit Go
theorem cO.bP{P:Program}{k e:TypeId}{w:World}{b n:Nat}{f:Value→Option Value}(h:cO P k e w b n f){g:Nat}{t:TypeId}{cs:Array Value}(hB:Blk w g t cs):b≠g:=by
 rintro rfl
 obtain⟨D,⟨es,clock,hs,F⟩,h'⟩:=h
 unfold Blk at hB
 rw[hB]at hs
 cases hs
theorem cO.vU{P:Program}{k e:TypeId}{w:World}{b n:Nat}{f:Value→Option Value}(h:cO P k e w b n f){α:Type}{base:Nat}{t:TypeId}{enc:α→List Value}{s:Nat}{v:Value}{l:List α}(ho:aB w base t enc s v l):∀q,v.ownBlock=some q→q≠b:=by
 intro q hq e
 obtain⟨cs,hc⟩:=ho.typ hq
 exact h.bP (g:=q) (t:=t) (cs:=cs) hc e.symm
theorem Mm:(Tryz.prog.info? 253).map (fun i=>(i.zero,i.size,i.bytes))=some (some (.agg #[.slice none 0 0,.slice none 0 0]),2,48):=by kernel_rfl
section
variable {w w':World}{B g dm nm:Nat}{A:Option Addr}{c:Nat}{ts:List Tab}{d n:Nat}{v:Value}{st:List Sto}
theorem Blk.apart{w:World}{g q:Nat}{t t':TypeId}{cs cs':Array Value}(h:Blk w g t cs)(h':Blk w q t' cs')(ht:t≠t'):g≠q:=by
 rintro rfl
 unfold Blk at h h'
 rw[h]at h'
 injection h' with h'
 injection h' with _ h' _
 exact ht h'
end
open Go.RowKit Go
structure Kd where
 cnt:Nat
 lim:Int
 f:Nat
def Kd.cells(g:Nat)(x:Kd):List Value:= [.int .i64 x.cnt,.int .i64 x.lim,.func (.func x.f) #[.pointer (some ⟨g,0,none⟩)] #[]]
theorem J4(g:Nat):∀x:Kd,(Kd.cells g x).length=3:=fun _=>rfl
theorem uS(w:World)(ts:List Tab):cO Tryz.prog 9 3 (w.alloc (.map #[] 0)) w.heap.size 0 (numF ts 0):=
 (cO.made w _ _ _).eqf fun x kl _=>by
   cases x
   case string s=>simp only[numF];rw[FI,if_pos (by decide)]
   all_goals rfl
end Go.Proofs.YtebippoohpnjkaaGreat
