/-
  Contracts and plain laws of this seat, part 18: Maps, RetE, Repl.
-/
import Derived.Maps.OwnSet
import Derived.Maps.OwnOps
import Derived.Maps.Ext
import Derived.Test.YtlpgmdhnjckplaaGreatR1
import Derived.Test.YtlpgmdhnjckplaaGreatR4
import Derived.Test.YtlpgmdhnjckplaaGreatR3
import Derived.Test.YtlpgmdhnjckplaaGreatR11
import Derived.Test.YtlpgmdhnjckplaaGreatR14
set_option linter.unusedVariables false
set_option linter.unusedSimpArgs false
set_option maxRecDepth 100000
set_option maxHeartbeats 16000000
namespace Go.Proofs.YtlpgmdhnjckplaaGreat
open Go.RowKit Go
open Go.Maps (Keyed)
theorem plain_inj {P:Program} {e:TypeId} {u v:Value} {d:DataW Unit} {p q:List MemPlace} (hu:plainElem P e u=some (d,p)) (hv:plainElem P e v=some (d,q)):u=v:=by
 cases hP:P.underlying e with
 | none=>simp [plainElem,hP] at hu
 | some td =>
   cases td <;> cases u <;> simp [plainElem,hP] at hu <;> cases v <;> simp [plainElem,hP] at hv
   ·rw [← hv.1] at hu
    simpa using hu.1
   ·obtain ⟨⟨rfl,_⟩,h1,_⟩:=hu
    obtain ⟨⟨rfl,_⟩,h2,_⟩:=hv
    rw [← h2] at h1
    simpa using h1
   ·obtain ⟨_,h1,_⟩:=hu
    obtain ⟨_,h2,_⟩:=hv
    rw [← h2] at h1
    injection h1 with h1
    injection h1 with h1
    exact congrArg Value.string (ByteArray.ext (Array.toList_inj.1 h1))
def MapV (P:Program) (k e:TypeId) (w:World) (b n:Nat) (f:Value→Option Value):Prop :=
 ∃ D:DataW Unit,w.ownsMap P k (plainElem P e) b n D ∧ ∀ x kl,Go.keyOf P k x=some kl →
  (f x=none→Maps.has D kl=false) ∧ ∀ y,f x=some y→Maps.has D kl=true ∧ ∃ d,plainElem P e y=some (d,[]) ∧ ∀ z,D.atKey kl z=d
section
variable {P:Program} {k e t:TypeId} {w:World} {b n:Nat} {f:Value→Option Value}
theorem MapV.made (w:World) (P:Program) (k e:TypeId):MapV P k e (w.alloc (.map #[] 0)) w.heap.size 0 (fun _=>none) :=
 ⟨.map [],World.ownsMap_made w P k _,fun x kl _=>⟨fun _=>rfl,fun y h=>by cases h⟩⟩
theorem MapV.lt (h:MapV P k e w b n f):b<w.heap.size:=by obtain ⟨D,h,_⟩:=h;exact h.lt
theorem MapV.mono (h:MapV P k e w b n f) {m:Nat} (hm:n≤m):MapV P k e w b m f:=by obtain ⟨D,h,h'⟩:=h;exact ⟨D,h.mono hm,h'⟩
theorem MapV.kept {w':World} {row:Option Nat} (h:MapV P k e w b n f) (hg:w.grownBy w' row) (hne:some b≠row):MapV P k e w' b n f:=by obtain ⟨D,h,h'⟩:=h;exact ⟨D,h.kept hg hne,h'⟩
theorem MapV.alloc (h:MapV P k e w b n f) (o:Obj):MapV P k e (w.alloc o) b n f:=by obtain ⟨D,h,h'⟩:=h;exact ⟨D,h.alloc o,h'⟩
theorem MapV.drew (h:MapV P k e w b n f):MapV P k e w.drew b n f:=h
theorem MapV.setCell (h:MapV P k e w b n f) {a:Addr} (ha:b≠a.block) (u:Value):MapV P k e (w.setCell a u) b n f:=by obtain ⟨D,h,h'⟩:=h;exact ⟨D,h.setCell ha u,h'⟩
theorem MapV.below {w':World} {B:Nat} (h:MapV P k e w b n f) (hb:Below B w w') (hB:b<B):MapV P k e w' b n f:=by
 obtain ⟨D,⟨es,clock,hs,F⟩,h'⟩:=h
 exact ⟨D,⟨es,clock,(hb.block b hB).trans hs,F⟩,h'⟩
theorem MapV.eqf (h:MapV P k e w b n f) {g:Value→Option Value} (hg : ∀ x kl,Go.keyOf P k x=some kl→g x=f x):MapV P k e w b n g:=by
 obtain ⟨D,h,h'⟩:=h
 exact ⟨D,h,fun x kl hx=>by rw [hg x kl hx];exact h' x kl hx⟩
theorem MapV.look (h:MapV P k e w b n f) (K:Keyed P k) (ht:P.underlying t=some (.map k e)) {z:Value} (hz:(zeroValue e).run P w = .ok z w) {zd:DataW Unit} (hzd:plainElem P e z=some (zd,[])) {x:Value} {kl:Lit} (hx:Go.keyOf P k x=some kl) :
 (Instr.lookup t (.map (some b)) x false).run P w = .ok ((f x).getD z) w:=by
 obtain ⟨D,h,h'⟩:=h
 obtain ⟨v,ps,hrun,hv⟩:=h.lookup K ht hz hzd hx
 rw [hrun]
 cases hf:f x with
 | none =>
   rw [Maps.atKey_of_not_has ((h' x kl hx).1 hf)] at hv
   rw [plain_inj hv hzd]
   rfl
 | some y =>
   obtain ⟨_,d,hd,hat⟩:=(h' x kl hx).2 y hf
   rw [hat] at hv
   rw [plain_inj hv hd]
   rfl
theorem MapV.look_ok (h:MapV P k e w b n f) (K:Keyed P k) (ht:P.underlying t=some (.map k e)) {z:Value} (hz:(zeroValue e).run P w = .ok z w) {zd:DataW Unit} (hzd:plainElem P e z=some (zd,[])) {x:Value} {kl:Lit} (hx:Go.keyOf P k x=some kl) :
 (Instr.lookup t (.map (some b)) x true).run P w = .ok (.tuple #[(f x).getD z, .bool (f x).isSome]) w:=by
 obtain ⟨D,h,h'⟩:=h
 obtain ⟨v,ps,hrun,hv⟩:=h.look_ok K ht hz hzd hx
 rw [hrun]
 cases hf:f x with
 | none =>
   have hn:=(h' x kl hx).1 hf
   rw [Maps.atKey_of_not_has hn] at hv
   rw [plain_inj hv hzd,hn]
   rfl
 | some y =>
   obtain ⟨hh,d,hd,hat⟩:=(h' x kl hx).2 y hf
   rw [hat] at hv
   rw [plain_inj hv hd,hh]
   rfl
theorem MapV.store (h:MapV P k e w b n f) (K:Keyed P k) (ht:P.underlying t=some (.map k e)) (hn:n<maxLen) {x y:Value} {kl:Lit} (hx:Go.keyOf P k x=some kl) {d:DataW Unit} (hy:plainElem P e y=some (d,[])) :
 ∃ w',(Instr.mapUpdate t (.map (some b)) x y).run P w = .ok () w'∧(∀ f',f' x=some y→(∀ u,u≠x→f' u=f u)→MapV P k e w' b (n + 1) f')∧w.grownBy w' (some b):=by
 obtain ⟨D,h,h'⟩:=h
 obtain ⟨w',hrun,ho,hg⟩:=h.update K ht hn hx hy
 refine ⟨w',hrun,fun f' h1 h2=>⟨_,ho,fun u ul hu => ?_⟩,hg⟩
 have hD:=h.isMap
 have hkl:=K.key hx
 by_cases hux:u=x
 ·subst hux
  rw [hx] at hu
  injection hu with hu
  subst hu
  rw [h1]
  refine ⟨fun h=>(Option.some_ne_none _ h).elim,fun y' hy' => ?_⟩
  injection hy' with hy'
  subst hy'
  exact ⟨Maps.has_put_same hD hkl d,d,hy,fun z=>Maps.atKey_put_same hD hkl d z⟩
 ·have hne:ul≠kl:=fun e=>hux (K.inj hu (by rw [e];exact hx))
  rw [h2 u hux]
  refine ⟨fun hf=>by rw [Maps.has_put_other hne];exact (h' u ul hu).1 hf,fun y' hf => ?_⟩
  obtain ⟨hh,d',hd',hat⟩:=(h' u ul hu).2 y' hf
  exact ⟨by rw [Maps.has_put_other hne];exact hh,d',hd',fun z=>by rw [Maps.atKey_put_other hne];exact hat z⟩
end
/-! ### at the operation, for the walk -/
section
variable {P:Program} (w:World) {ops:Array Oper} {rest:List Oper} {o:Oper} {a:Act} {Q:Exit→Act→World→Prop}
theorem wpList_lookV (hg:o.guard=none) (m x:Operand) (t:TypeId) (hop:o.op=Op.lookup t m x false) (k e:TypeId) (K:Keyed P k) (ht:P.underlying t=some (.map k e)) (z:Value) (hz : ∀ u,(zeroValue e).run P u = .ok z u) (zd:DataW Unit) (hzd:plainElem P e z=some (zd,[]))
 (b n:Nat) (f:Value→Option Value) (hm:a.eval m = .map (some b)) (hown:MapV P k e w b n f) (key:Value) (kl:Lit) (hx:a.eval x=key) (hkey:Go.keyOf P k key=some kl)
 (r:Value) (hr:(f key).getD z=r) (hK:wpList P ops Q rest (a.put o.dst r) w):wpList P ops Q (o::rest) a w:=by
 subst hr
 refine wpList_plain hg fun K' hK' => ?_
 have hrun:=hown.look K ht (hz w) hzd hkey
 unfold Oper.wp
 simp [execOp,hop,hm,hx,hrun,Result.andThen]
 exact hK' _ _ hK
theorem wpList_lookOkV (hg:o.guard=none) (m x:Operand) (t:TypeId) (hop:o.op=Op.lookup t m x true) (k e:TypeId) (K:Keyed P k) (ht:P.underlying t=some (.map k e)) (z:Value) (hz : ∀ u,(zeroValue e).run P u = .ok z u) (zd:DataW Unit) (hzd:plainElem P e z=some (zd,[]))
 (b n:Nat) (f:Value→Option Value) (hm:a.eval m = .map (some b)) (hown:MapV P k e w b n f) (key:Value) (kl:Lit) (hx:a.eval x=key) (hkey:Go.keyOf P k key=some kl)
 (r:Value) (c:Bool) (hr:(f key).getD z=r) (hc:(f key).isSome=c) (hK:wpList P ops Q rest (a.put o.dst (.tuple #[r, .bool c])) w):wpList P ops Q (o::rest) a w:=by
 subst hr hc
 refine wpList_plain hg fun K' hK' => ?_
 have hrun:=hown.look_ok K ht (hz w) hzd hkey
 unfold Oper.wp
 simp [execOp,hop,hm,hx,hrun,Result.andThen]
 exact hK' _ _ hK
theorem wpList_storeV (hg:o.guard=none) (m x v:Operand) (t:TypeId) (hop:o.op=Op.mapUpdate t m x v) (k e:TypeId) (K:Keyed P k) (ht:P.underlying t=some (.map k e))
 (b n:Nat) (f:Value→Option Value) (hm:a.eval m = .map (some b)) (hown:MapV P k e w b n f) (hn:n<maxLen) (key:Value) (kl:Lit) (hx:a.eval x=key) (hkey:Go.keyOf P k key=some kl) (y:Value) (hv:a.eval v=y) (d:DataW Unit) (hy:plainElem P e y=some (d,[]))
 (f':Value→Option Value) (h1:f' key=some y) (h2 : ∀ u,u≠key→f' u=f u)
 (hK : ∀ w',MapV P k e w' b (n + 1) f'→w.grownBy w' (some b)→wpList P ops Q rest (a.put o.dst undef) w'):wpList P ops Q (o::rest) a w:=by
 refine wpList_plain hg fun K' hK' => ?_
 obtain ⟨w',hrun,r1,r2⟩:=hown.store K ht hn hkey hy
 unfold Oper.wp
 simp [execOp,hop,hm,hx,hv,hrun,Result.andThen]
 exact hK' _ _ (hK w' (r1 f' h1 h2) r2)
end
def endE (ts:List Tab) (x:Owned):Int :=
 if 0≤x.table ∧ 0≤x.day∧x.day ≤ 1048576 then
  match ts[x.table.toNat]? with
  | some t=>if 0≤x.col then match t.cols[x.col.toNat]? with
    | some c=>if c.duty = 0 then 0 else x.day+c.duty
    | none => 0
    else 0
  | none => 0
 else 0
def keepsB (u day:Int):Bool:=(u != 0)&&decide (day<u)
def keptS (ts:List Tab) (o:List Owned) (day:Int) (s:Src):Bool:=o.any fun x=>(x.last&&keepsB (endE ts x) day)&&((x.table==s.tab)&&(x.record==s.seq))
def srcR (i:Nat) (r:Rcd):Src:=⟨(i:Int),headS r⟩
def expT (ts:List Tab) (o:List Owned) (day:Int) (i:Nat) (ret:Int) (recs:List Rcd):List Src:=(recs.filter fun r=>decide (r.day+ret≤day) && !keptS ts o day (srcR i r)).map (srcR i)
def retainAt (ts:List Tab) (i:Nat):Int:=match ts[i]? with
 | some t=>t.retain
 | none => 0
def recsI (rt:List RTab) (i:Nat):List Rcd:=match rt[i]? with
 | some t=>t.recs
 | none => []
def expAt (ts:List Tab) (rt:List RTab) (o:List Owned) (day:Int) (i:Nat):List Src:=if retainAt ts i = 0 then [] else expT ts o day i (retainAt ts i) (recsI rt i)
def expE (ts:List Tab) (rt:List RTab) (o:List Owned) (day:Int):Nat→List Src
 | 0 => []
 | n + 1=>expE ts rt o day n++expAt ts rt o day n
theorem mem_expE {ts:List Tab} {rt:List RTab} {o:List Owned} {day:Int} {s:Src} : ∀ {n:Nat},s∈expE ts rt o day n ↔ ∃ i,i<n∧s∈expAt ts rt o day i
 | 0=>by simp [expE]
 | n + 1=>by
   rw [expE,List.mem_append,mem_expE]
   constructor
   ·rintro (⟨i,h1,h2⟩|h)
    ·exact ⟨i,by omega,h2⟩
    ·exact ⟨n,by omega,h⟩
   ·rintro ⟨i,h1,h2⟩
    rcases Nat.lt_or_ge i n with h|h
    ·exact .inl ⟨i,h,h2⟩
    ·obtain rfl:i=n:=by omega
     exact .inr h2
theorem mem_expAt {ts:List Tab} {rt:List RTab} {o:List Owned} {day:Int} {i:Nat} {s:Src}:s∈expAt ts rt o day i↔retainAt ts i ≠ 0 ∧ ∃ r,r∈recsI rt i∧r.day+retainAt ts i≤day∧keptS ts o day (srcR i r)=false∧srcR i r=s:=by
 unfold expAt
 split
 ·rename_i h
  simp [h]
 ·rename_i h
  simp only [expT,List.mem_map,List.mem_filter,Bool.and_eq_true,decide_eq_true_eq,Bool.not_eq_true']
  constructor
  ·rintro ⟨r,⟨h1,h2,h3⟩,h4⟩
   exact ⟨h,r,h1,h2,h3,h4⟩
  ·rintro ⟨_,r,h1,h2,h3,h4⟩
   exact ⟨r,⟨h1,h2,h3⟩,h4⟩
theorem keepsB_mono {u d d':Int} (hd:d≤d') (h:keepsB u d=false):keepsB u d'=false:=by
 simp only [keepsB,Bool.and_eq_false_iff,decide_eq_false_iff_not] at h ⊢
 rcases h with h|h
 ·exact .inl h
 ·exact .inr omA
theorem keptS_mono {ts:List Tab} {o:List Owned} {d d':Int} {s:Src} (hd:d≤d') (h:keptS ts o d s=false):keptS ts o d' s=false:=by
 simp only [keptS,List.any_eq_false] at h ⊢
 intro x hx h'
 refine h x hx ?_
 simp only [Bool.and_eq_true] at h' ⊢
 refine ⟨⟨h'.1.1,?_⟩,h'.2⟩
 cases hk:keepsB (endE ts x) d
 ·rw [keepsB_mono hd hk] at h'
  exact absurd h'.1.2 spA
 ·rfl
theorem expE_mono {ts:List Tab} {rt:List RTab} {o:List Owned} {d d':Int} {n:Nat} {s:Src} (hd:d≤d') (h:s∈expE ts rt o d n):s∈expE ts rt o d' n:=by
 obtain ⟨i,hi,h⟩:=mem_expE.1 h
 obtain ⟨h1,r,h2,h3,h4,h5⟩:=mem_expAt.1 h
 exact mem_expE.2 ⟨i,hi,mem_expAt.2 ⟨h1,r,h2,by omega,keptS_mono hd h4,h5⟩⟩
theorem expE_kept {ts:List Tab} {rt:List RTab} {o:List Owned} {d:Int} {n:Nat} {s:Src} (h:s∈expE ts rt o d n) {x:Owned} (hx:x∈o) (ht:x.table=s.tab) (hr:x.record=s.seq) (hl:x.last=true):keepsB (endE ts x) d=false:=by
 obtain ⟨i,hi,h⟩:=mem_expE.1 h
 obtain ⟨h1,r,h2,h3,h4,h5⟩:=mem_expAt.1 h
 rw [h5] at h4
 simp only [keptS,List.any_eq_false] at h4
 have h6:=h4 x hx
 cases hk:keepsB (endE ts x) d
 ·rfl
 ·exact absurd (by rw [hl,hk,ht,hr];simp) h6
noncomputable def replayE (ts:List Tab) (l:List Chg):List (List PRec):=l.foldl (fun pl x=>if formE ts x = 0 then performE pl x else pl) (List.replicate ts.length [])
theorem replayE_succ (ts:List Tab) {l:List Chg} {i:Nat} (hi:i<l.length):replayE ts (l.take (i + 1))=if formE ts l[i] = 0 then performE (replayE ts (l.take i)) l[i] else replayE ts (l.take i):=by
 unfold replayE
 rw [List.take_succ_eq_append_getElem hi,List.foldl_append]
 rfl
theorem RShape.zero (ts:List Tab):RShape ts (List.replicate ts.length zeroT):=by
 refine ⟨by simp,fun i hi hi' => ?_⟩
 simp only [List.map_replicate,List.getElem_replicate,pureT,zeroT,List.map_nil]
 exact ⟨by simp,fun r hr=>by cases hr⟩
theorem ref07_Replay (A:Option Addr) (c m:Nat) (ts:List Tab) (LA:Option Addr) (lc n:Nat) (l:List Chg) (w:World) (ht:TabsIn w w.heap.size A ts) (hm:ts.length=m) (hs:SaneCat ts) (hok:CatOk ts) (hl:ChgsIn w w.heap.size LA l) (hn:l.length=n) (hn6:n ≤ 1000000) (hrow : ∀ x∈l,x.row.length ≤ 1000000) :
 Calls Tryz.prog 26 #[.agg #[.slice A m c, .slice none 0 0, .slice none 0 0, .slice none 0 0, .slice none 0 0, .slice none 0 0, .slice none 0 0, .slice none 0 0], .slice LA n lc] w fun e w'=>(∃ RA rc rt,e = .returned (.slice RA m rc)∧rt.length=m∧RTabsIn w' w'.heap.size RA rt∧RUp w.heap.size RA rt∧RShape ts rt∧rt.map pureT=replayE ts l)∧Below w.heap.size w w':=by
 subst hm hn
 have h8:=hok.len
 have HT:=qh ht
 have HS:=qh hs
 have HOK:=qh hok
 have HL1:=qh hl.1
 have HL2:=qh hl.2
 have HROW:=qh hrow
 clear ht hs hok hl hrow
 go_enter Tryz.func26,Tryz.ntmps26
 go_upto_region 2 with (go_at_call 42;(with_reducible refine (ref07_New A c ts.length ts _ (HT.out.next belA) rfl HS.out HOK.out).mono ?_);rintro e w1 ⟨⟨q,rfl,hq,hr⟩,hb1⟩)
 refine abs_world (P:=fun u=>Code.wp _ _ _ _ u) (R:=fun u=>Blk u w.heap.size 34 #[.slice A ts.length c, .slice none 0 0, .slice none 0 0, .slice none 0 0, .slice none 0 0, .slice none 0 0, .slice none 0 0, .slice none 0 0]∧RTabsIn u u.heap.size (some ⟨q,0,none⟩) (List.replicate ts.length zeroT)∧Below w.heap.size w u) ⟨?_,hr,?_⟩ ?_
 ·exact (Blk.new _ _ _).below hb1 spA
 ·exact below_nextN belA hb1 leA
 have hq':w.heap.size≤q:=by simp at hq;omega
 clear hb1 hr
 rintro W ⟨hB,hR,hbW⟩
 have hzW:=hB.lt
 have HB:=qh hB
 have HR:=qh hR
 clear hB hR
 have hnil:(binOp .eql 60 (.slice (some ⟨q,0,none⟩) ts.length ts.length) (.slice none 0 0)).run Tryz.prog W = .ok (.bool false) W:=Lib.run_eql_slice_nil W 60 149 (some ⟨q,0,none⟩) ts.length ts.length 0 0 Tryz.underlying60
 go_upto_region 5 with (fail)
 clear hnil
 go_loopw [5,6] (fun vt vi wr => ∃ (i:Nat) (RA:Option Addr) (rc:Nat) (rt:List RTab),i≤l.length∧vi = .int .i64 i∧vt = .slice RA ts.length rc∧rt.length=ts.length∧RTabsIn wr wr.heap.size RA rt∧RUp w.heap.size RA rt∧RShape ts rt∧rt.map pureT=replayE ts (l.take i)∧Below W.heap.size W wr) (fun _ vi _=>l.length - (intOf vi).toNat)
 case atStart=>exact ⟨0,_,_,_,Nat.zero_le _,rfl,rfl,by simp,HR.out,⟨fun a ha=>by injection ha with ha;subst ha;exact hq',fun t ht=>by rw [(List.mem_replicate.1 ht).2];exact ⟨fun a ha=>by simp [zeroT] at ha,fun r hr=>by simp [zeroT] at hr⟩⟩,RShape.zero ts,by simp [replayE,pureT,zeroT],Below.refl _ _⟩
 case round =>
  obtain ⟨i,RA,rc,rt,hi,rfl,rfl,hrl,hrt,hup,hsh,hpu,hbr⟩:=hrel
  have HUP:=qh hup
  clear hup
  have hwz:=hbr.size
  have hxr:=below_nextN hbW hbr hbW.size
  have hxz:=hxr.size
  have HRT:=qh hrt
  have HSH:=qh hsh
  have HPU:=qh hpu
  have HRL:=qh hrl
  clear hrt hsh hpu hrl
  by_cases hlt:i<l.length
  ·obtain ⟨b,o,rfl,hb,hc⟩:=(HL1.out.below hxr).get hlt
   obtain ⟨⟨q0,q1,q2,q3⟩,q4,⟨q5,q6,q7⟩,q8,q9,q10,q11⟩:=Chg.cells12 hc
   have hrin:=HL2.out l[i] (List.getElem_mem hlt)
   have hrl:=HROW.out l[i] (List.getElem_mem hlt)
   have hsu:=replayE_succ ts hlt
   obtain ⟨⟨kd,sq,dy,tb,A0,cp,row,key,cl,vl⟩,hy⟩ : ∃ x:Chg,l[i]=x:=⟨_,rfl⟩
   rw [hy] at q0 q1 q2 q3 q4 q5 q6 q7 q8 q9 q10 q11 hrin hrl hsu
   simp only at q0 q1 q2 q3 q4 q5 q6 q7 q8 q9 q10 q11 hrin hrl
   have HRI:=qh hrin
   have HSU:=qh hsu
   clear hc hy hrin hsu
   obtain ⟨p0,p1,p2,p3,p4,p5,p6,p7⟩:=Cat.blk (HB.out.below hbr hzW)
   have hk0:=keepQ (w:=wr) w.heap.size omA
   have hk1:=keepQ (w:=wr) b omA
   obtain ⟨z,hz⟩ : ∃ z,formE ts ⟨kd,sq,dy,tb,A0,cp,row,key,cl,vl⟩=z:=⟨_,rfl⟩
   have HZ:=qh hz
   have HFC:Hid (∀ x:BelOf wr,Calls Tryz.prog 68 #[.agg #[.slice A ts.length c, .slice none 0 0, .slice none 0 0, .slice none 0 0, .slice none 0 0, .slice none 0 0, .slice none 0 0, .slice none 0 0], .agg #[.int .i64 kd, .int .i64 sq, .int .i64 dy, .int .i64 tb, .slice A0 row.length cp, .int .i64 key.kind, .int .i64 key.num, .string key.text, .int .i64 cl, .int .i64 vl.kind, .int .i64 vl.num, .string vl.text]] x.u fun e w''=>e = .returned (.int .i64 z) ∧ ∃ y:BelOf wr,w''=y.u):=qh fun x=>bel_of (ref07_Form A c ts.length ts kd sq dy tb A0 cp row key cl vl x.u (HT.out.next (below_nextN hxr x.h hxr.size)) rfl HS.out HOK.out (HRI.out.next (below_nextN hxr x.h hxr.size)) hrl HZ.out)
   clear hz
   cases hz0:(z == 0)
   ·have HNE:Hid (replayE ts (l.take (i + 1))=replayE ts (l.take i)):=qh (by rw [HSU.out,if_neg (by rw [HZ.out];simpa using hz0)])
    go_upto_region 7 with (fail)
    refine wp_region_bel krA krA ?_;(repeat (go_big_quiet_step ((go_at_call 68;with_reducible exact HFC.out _))));refine wpQuiet_nil ?_;intro wq hq
    clear hk0 hk1 p0 p1 p2 p3 p4 p5 p6 p7 q0 q1 q2 q3 q4 q5 q6 q7 q8 q9 q10 q11
    go_wp2_with fail
    go_roundw
    case rel=>exact ⟨i + 1,RA,rc,rt,by omega,by go_num,rfl,HRL.out,(HRT.out.below hq).mono hq.size,HUP.out,HSH.out,by rw [HNE.out];exact HPU.out,below_nextN hbr hq hwz⟩
    case measure=>simp [intOf];omega
   ·have hzz:z = 0:=by simpa using hz0
    subst hzz
    obtain ⟨k,hin⟩:=formE_in HZ.out
    have HIN:=qh hin
    have HYE:Hid (replayE ts (l.take (i + 1))=performE (replayE ts (l.take i)) ⟨kd,sq,dy,tb,A0,cp,row,key,cl,vl⟩):=qh (by rw [HSU.out,if_pos HZ.out])
    clear hin
    go_upto_region 7 with (fail)
    refine wp_region_bel krA krA ?_;(repeat (go_big_quiet_step ((go_at_call 68;with_reducible exact HFC.out _))));refine wpQuiet_nil ?_;intro wq hq
    have HQ:=qh hq
    have hqz:=hq.size
    clear hk0 hk1 p0 p1 p2 p3 p4 p5 p6 p7
    replace q0:=(hq.cell (p:=⟨b,_,none⟩) (show b<wr.heap.size by omega)).trans q0
    replace q1:=(hq.cell (p:=⟨b,_,none⟩) (show b<wr.heap.size by omega)).trans q1
    replace q2:=(hq.cell (p:=⟨b,_,none⟩) (show b<wr.heap.size by omega)).trans q2
    replace q3:=(hq.cell (p:=⟨b,_,none⟩) (show b<wr.heap.size by omega)).trans q3
    replace q4:=(hq.cell (p:=⟨b,_,none⟩) (show b<wr.heap.size by omega)).trans q4
    replace q5:=(hq.cell (p:=⟨b,_,none⟩) (show b<wr.heap.size by omega)).trans q5
    replace q6:=(hq.cell (p:=⟨b,_,none⟩) (show b<wr.heap.size by omega)).trans q6
    replace q7:=(hq.cell (p:=⟨b,_,none⟩) (show b<wr.heap.size by omega)).trans q7
    replace q8:=(hq.cell (p:=⟨b,_,none⟩) (show b<wr.heap.size by omega)).trans q8
    replace q9:=(hq.cell (p:=⟨b,_,none⟩) (show b<wr.heap.size by omega)).trans q9
    replace q10:=(hq.cell (p:=⟨b,_,none⟩) (show b<wr.heap.size by omega)).trans q10
    replace q11:=(hq.cell (p:=⟨b,_,none⟩) (show b<wr.heap.size by omega)).trans q11
    go_wp2_with (go_at_call 69;(with_reducible refine (ref07_perform ts RA rc ts.length rt k kd sq dy tb A0 cp row key cl vl _ ((HRT.out.below HQ.out).mono hqz) HRL.out HSH.out HOK.out (HRI.out.next (below_nextN hxr HQ.out hxr.size)) HIN.out).mono ?_);rintro e w2 ⟨⟨RA2,rc2,rt2,rfl,hl2,hr2,hu2,hp2⟩,hb2⟩;have HU2:=qh hu2;clear hu2;have HR2:=qh hr2;have HP2:=qh hp2;clear hr2 hp2)
    go_roundw
    case rel=>exact ⟨i + 1,RA2,rc2,rt2,by omega,by go_num,rfl,hl2,HR2.out,HU2.out.mono omA,(show PShape ts (rt2.map pureT) by rw [HP2.out];exact PShape.perf HSH.out HIN.out),by rw [HP2.out,HYE.out,HPU.out],below_nextN (below_nextN hbr HQ.out hwz) hb2 omA⟩
    case measure=>simp [intOf];omega
  ·have hlt':decide (i<l.length)=false:=by simpa using hlt
   obtain rfl:i=l.length:=by omega
   have HFIN:Hid (rt.map pureT=replayE ts l):=qh (by have h:=HPU.out;rw [List.take_length] at h;exact h)
   go_wp2_with fail
   go_ret
   exact ⟨⟨RA,rc,rt,rfl,HRL.out,HRT.out,HUP.out,HSH.out,HFIN.out⟩,hxr⟩
end Go.Proofs.YtlpgmdhnjckplaaGreat
