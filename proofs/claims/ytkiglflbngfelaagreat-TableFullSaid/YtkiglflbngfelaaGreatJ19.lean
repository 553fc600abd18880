/-
  Contracts and plain laws of this seat, part 19: PCat1, PCat2, PCat3, PCat4, PCat5.
-/
import Derived.Test.YtkiglflbngfelaaGreatJ18
import Derived.Test.YtkiglflbngfelaaGreatJ1
import Derived.Test.YtkiglflbngfelaaGreatJ6
import Derived.Test.YtkiglflbngfelaaGreatJ7
import Derived.Test.YtkiglflbngfelaaGreatJ2
import Derived.Deep.RegionHeld3
set_option linter.unusedVariables false
set_option linter.unusedSimpArgs false
set_option maxRecDepth 100000
set_option maxHeartbeats 16000000
namespace Go.Proofs.YtkiglflbngfelaaGreat
open Go.RowKit Go
open Go.Maps (Keyed)
theorem findA_ge {s:ByteArray} : ∀ {l:List ByteArray} {n k:Nat},findA s l n k = -1∨(k:Int)≤findA s l n k
 | [],_,_ => .inl (by simp [findA])
 | _::_,0,_ => .inl (by simp [findA])
 | x::l,n + 1,k=>by
   simp only [findA]
   split
   ·exact .inr (Int.le_refl _)
   ·rcases findA_ge (s:=s) (l:=l) (n:=n) (k:=k + 1) with h|h
    ·exact .inl h
    ·exact .inr omA
theorem findA_succ {s:ByteArray} : ∀ {l:List ByteArray} {n k:Nat} (h:n<l.length),findA s l (n + 1) k=if findA s l n k < 0 then (if l[n]=s then ((k+n:Nat):Int) else -1) else findA s l n k
 | x::l,0,k,h=>by
   have h0:findA s l 0 (k + 1) = -1:=by cases l <;> simp [findA]
   simp [findA,h0]
 | x::l,n + 1,k,h=>by
   have ih:=findA_succ (s:=s) (l:=l) (n:=n) (k:=k + 1) (by simpa using h)
   by_cases hx:x=s
   ·have h1 : ¬ ((k:Int) < 0):=by omega
    simp [findA,hx,h1]
   ·have h2:findA s (x::l) (n + 1) k=findA s l n (k + 1):=by simp [findA,hx]
    have h3:findA s (x::l) (n + 1 + 1) k=findA s l (n + 1) (k + 1):=by rw [findA,if_neg hx]
    rw [h2,h3,ih,List.getElem_cons_succ,show k + 1+n=k+(n + 1) by omega]
theorem findT_eq {ts:List Tab} {s:ByteArray} {n:Nat} (hn:n≤ts.length):findT ts s (n:Int)=findA s (ts.map Tab.name) n 0:=by
 unfold findT findI
 rw [show (min (n:Int) (ts.length:Int)).toNat=n by omega]
theorem findT_succ {ts:List Tab} {s:ByteArray} {n:Nat} (hn:n<ts.length):findT ts s ((n + 1:Nat):Int)=if findT ts s (n:Int) < 0 then (if ts[n].name=s then (n:Int) else -1) else findT ts s (n:Int):=by
 rw [findT_eq hn,findT_eq (Nat.le_of_lt hn),findA_succ (by simpa using hn)]
 simp
theorem findT_neg {ts:List Tab} {s:ByteArray} {n:Int} (h:findT ts s n < 0):findT ts s n = -1:=by
 unfold findT findI at h ⊢
 rcases findA_ge (s:=s) (l:=ts.map Tab.name) (n:=(min n (ts.length:Int)).toNat) (k := 0) with h1|h1
 ·exact h1
 ·omega
theorem findT_zero (ts:List Tab) (s:ByteArray):findT ts s ((0:Nat):Int) = -1:=by
 rw [findT_eq (Nat.zero_le _)]
 cases ts <;> simp [findA]
def numF (ts:List Tab) (n:Nat):Value→Option Value
 | .string s=>if findT ts s (n:Int) < 0 then none else some (.int .i64 (findT ts s (n:Int)))
 | _=>none
def declF (ts:List Tab) (n:Nat):Value→Option Value
 | .string s=>if findT ts s (n:Int) < 0 then none else some (.bool true)
 | _=>none
theorem numF_new {ts:List Tab} {n:Nat} (hn:n<ts.length) (hf:findT ts ts[n].name (n:Int) < 0):numF ts (n + 1) (.string ts[n].name)=some (.int .i64 n):=by
 simp only [numF]
 rw [findT_succ hn,if_pos hf,if_pos rfl,if_neg omA]
theorem numF_old {ts:List Tab} {n:Nat} (hn:n<ts.length) {u:Value} (hu:u ≠ .string ts[n].name):numF ts (n + 1) u=numF ts n u:=by
 cases u
 case string s =>
  have hs:ts[n].name≠s:=fun e=>hu (by rw [e])
  simp only [numF]
  rw [findT_succ hn,if_neg hs]
  by_cases h:findT ts s (n:Int) < 0
  ·rw [if_pos h,if_pos h,if_pos omA]
  ·rw [if_neg h,if_neg h]
 all_goals rfl
theorem declF_new {ts:List Tab} {n:Nat} (hn:n<ts.length) (hf:findT ts ts[n].name (n:Int) < 0):declF ts (n + 1) (.string ts[n].name)=some (.bool true):=by
 simp only [declF]
 rw [findT_succ hn,if_pos hf,if_pos rfl,if_neg omA]
theorem declF_old {ts:List Tab} {n:Nat} (hn:n<ts.length) {u:Value} (hu:u ≠ .string ts[n].name):declF ts (n + 1) u=declF ts n u:=by
 cases u
 case string s =>
  have hs:ts[n].name≠s:=fun e=>hu (by rw [e])
  simp only [declF]
  rw [findT_succ hn,if_neg hs]
  by_cases h:findT ts s (n:Int) < 0
  ·rw [if_pos h,if_pos h,if_pos omA]
  ·rw [if_neg h,if_neg h]
 all_goals rfl
theorem str_key {s:ByteArray} (hs:s.size ≤ 1000000):Go.keyOf Tryz.prog 9 (.string s)=some (.string s.data.toList):=WideMaps.keyOf_string_mk Tryz.underlying9 (by unfold maxLen;omega)
theorem str_keyed:Keyed Tryz.prog 9:=Maps.string_keyed Tryz.underlying9
theorem zero_int (u:World):(zeroValue 3).run Tryz.prog u = .ok (.int .i64 0) u:=by kernel_rfl
theorem zero_bool (u:World):(zeroValue 4).run Tryz.prog u = .ok (.bool false) u:=by kernel_rfl
theorem pe_int {a:Int} (h:(Lit.int .i64 a).wf=true):plainElem (H:=Unit) Tryz.prog 3 (.int .i64 a)=some (.lit (.int .i64 a),[]):=Go.plainElem_int Tryz.underlying3 h
theorem pe_bool (b:Bool):plainElem (H:=Unit) Tryz.prog 4 (.bool b)=some (.lit (.bool b),[]):=Go.plainElem_bool Tryz.underlying4 b
theorem Chk.blk {w:World} {g:Nat} {a0 a1 a2 a3 a4 a5 a6 a7 a8 a9 a10:Value} (k:Blk w g 176 #[a0,a1,a2,a3,a4,a5,a6,a7,a8,a9,a10]) :
 w.cell? ⟨g,0,none⟩=some a0∧w.cell? ⟨g,8,none⟩=some a8∧w.cell? ⟨g,9,none⟩=some a9∧w.cell? ⟨g,10,none⟩=some a10:=⟨k.cell 0,k.cell 8,k.cell 9,k.cell 10⟩
theorem chk_find (A:Option Addr) (c dm nm g k:Nat) (v:Value) (ts:List Tab) (n:Nat) (s:ByteArray) (w:World) (hB:Blk w g 176 #[.slice A ts.length c, .slice none 0 0, .slice none 0 0, .slice none 0 0, .slice none 0 0, .slice none 0 0, .slice none 0 0, .slice none 0 0, .map (some dm), .map (some nm),v]) (hM:MapV Tryz.prog 9 3 w nm k (numF ts n)) (hs:s.size ≤ 1000000) {r:Int} (hr:findT ts s (n:Int)=r) :
 Calls Tryz.prog 187 #[.pointer (some ⟨g,0,none⟩), .string s] w fun e w'=>e = .returned (.int .i64 r)∧Below w.heap.size w w':=by
 subst hr
 obtain ⟨p0,p8,p9,p10⟩:=Chk.blk hB
 by_cases h:findT ts s (n:Int) < 0
 ·have hf:numF ts n (.string s)=none:=by simp [numF,h]
  have hneg:=findT_neg h
  have HF:=qh hf
  have HN:=qh hneg
  have HM:=qh hM
  clear hf hneg h hM hB
  go_enter Tryz.func187,Tryz.ntmps187
  go_wp2_with (at_lookup;refine wpList_lookOkV _ rfl _ _ _ rfl 9 3 str_keyed Tryz.underlying136 (.int .i64 0) zero_int _ (pe_int (by decide)) nm k _ rfl HM.out (.string s) _ rfl (str_key hs) (.int .i64 0) false (by rw [HF.out];rfl) (by rw [HF.out];rfl) ?_)
  go_ret
  exact ⟨ret_int (by rw [HN.out]),by exact belA⟩
 ·have hf:numF ts n (.string s)=some (.int .i64 (findT ts s (n:Int))):=by simp [numF,h]
  have HF:=qh hf
  have HM:=qh hM
  clear hf h hM hB
  go_enter Tryz.func187,Tryz.ntmps187
  go_wp2_with (at_lookup;refine wpList_lookOkV _ rfl _ _ _ rfl 9 3 str_keyed Tryz.underlying136 (.int .i64 0) zero_int _ (pe_int (by decide)) nm k _ rfl HM.out (.string s) _ rfl (str_key hs) (.int .i64 (findT ts s (n:Int))) true (by rw [HF.out];rfl) (by rw [HF.out];rfl) ?_)
  go_ret
  exact ⟨rfl,by exact belA⟩
theorem cat_within (x a b:Int) (w:World) {r:Bool} (hr:withinB x a b=r):Calls Tryz.prog 180 #[.int .i64 x, .int .i64 a, .int .i64 b] w fun e w'=>e = .returned (.bool r)∧w=w':=by
 subst hr
 cases h1:decide (a≤x)
 ·go_enter Tryz.func180,Tryz.ntmps180
  go_wp2_with fail
  go_ret
  exact ⟨ret_bool (by simp [withinB,h1]),rfl⟩
 ·cases h2:decide (x≤b)
  ·go_enter Tryz.func180,Tryz.ntmps180
   go_wp2_with fail
   go_ret
   exact ⟨ret_bool (by simp [withinB,h1,h2]),rfl⟩
  ·go_enter Tryz.func180,Tryz.ntmps180
   go_wp2_with fail
   go_ret
   exact ⟨ret_bool (by simp [withinB,h1,h2]),rfl⟩
theorem cat_isType (x:Int) (w:World) {r:Bool} (hr:(x == 1||x == 2)=r):Calls Tryz.prog 216 #[.int .i64 x] w fun e w'=>e = .returned (.bool r)∧w=w':=by
 subst hr
 cases h1:(x == 1)
 ·cases h2:(x == 2)
  ·go_enter Tryz.func216,Tryz.ntmps216
   go_wp2_with fail
   go_ret
   exact ⟨rfl,rfl⟩
  ·go_enter Tryz.func216,Tryz.ntmps216
   go_wp2_with fail
   go_ret
   exact ⟨rfl,rfl⟩
 ·go_enter Tryz.func216,Tryz.ntmps216
  go_wp2_with fail
  go_ret
  exact ⟨by simp,rfl⟩
theorem chk_declare (A:Option Addr) (c dm nm g k:Nat) (v:Value) (ts:List Tab) (n:Nat) (w:World) (hB:Blk w g 176 #[.slice A ts.length c, .slice none 0 0, .slice none 0 0, .slice none 0 0, .slice none 0 0, .slice none 0 0, .slice none 0 0, .slice none 0 0, .map (some dm), .map (some nm),v]) (hM:MapV Tryz.prog 9 4 w dm k (declF ts n)) (hn:n<ts.length) (hk:k<maxLen) (hs:ts[n].name.size ≤ 1000000) (hnm:nameB ts[n].name=true) (hf:findT ts ts[n].name (n:Int) < 0) :
 Calls Tryz.prog 179 #[.pointer (some ⟨g,0,none⟩), .string ts[n].name] w fun e w'=>e = .returned (.int .i64 0)∧MapV Tryz.prog 9 4 w' dm (k + 1) (declF ts (n + 1))∧w.grownBy w' (some dm):=by
 obtain ⟨p0,p8,p9,p10⟩:=Chk.blk hB
 have hd:declF ts n (.string ts[n].name)=none:=by simp [declF,hf]
 have HD:=qh hd
 have HM:=qh hM
 have HF:=qh hf
 have HNM:=qh hnm
 clear hd hM hf hB hnm
 go_enter Tryz.func179,Tryz.ntmps179
 go_wp2_with (first
  | (go_at_call 213;(with_reducible refine (lexer_IsName _ _ hs).mono ?_);rintro e w1 ⟨rfl,rfl⟩;rw [HNM.out])
  | (at_lookup;refine wpList_lookV _ rfl _ _ _ rfl 9 4 str_keyed Tryz.underlying173 (.bool false) zero_bool _ (pe_bool _) dm k _ rfl HM.out (.string ts[n].name) _ rfl (str_key hs) (.bool false) (by rw [HD.out];rfl) ?_)
  | (at_mapUpdate;refine wpList_storeV _ rfl _ _ _ _ rfl 9 4 str_keyed Tryz.underlying173 dm k _ rfl HM.out hk (.string ts[n].name) _ rfl (str_key hs) (.bool true) rfl _ (pe_bool _) (declF ts (n + 1)) (declF_new hn HF.out) (fun u hu=>declF_old hn hu) ?_;intro w2 hM2 hg2))
 go_ret
 exact ⟨rfl,hM2,⟨hg2.os,hg2.tape,hg2.output,hg2.size,hg2.block⟩⟩
open Go.RowKit Go
theorem col_name (x:Col) (w:World):Calls Tryz.prog 184 #[.agg #[.string x.name, .int .i64 x.ty, .string x.ns, .string x.refs, .slice x.A x.own.length x.cap, .int .i64 x.joint, .int .i64 x.duty]] w fun e w'=>e = .returned (.string x.name)∧Below w.heap.size w w':=by
 go_enter Tryz.func184,Tryz.ntmps184
 go_wp2_with fail
 go_ret
 exact ⟨rfl,by exact belA⟩
theorem col_type (x:Col) (w:World):Calls Tryz.prog 186 #[.agg #[.string x.name, .int .i64 x.ty, .string x.ns, .string x.refs, .slice x.A x.own.length x.cap, .int .i64 x.joint, .int .i64 x.duty]] w fun e w'=>e = .returned (.int .i64 x.ty)∧Below w.heap.size w w':=by
 go_enter Tryz.func186,Tryz.ntmps186
 go_wp2_with fail
 go_ret
 exact ⟨rfl,by exact belA⟩
theorem collect_names (A:Option Addr) (c n:Nat) (cols:List Col) (w:World) (hC:SliceIs w w.heap.size Col.cells 7 A cols) (hcn:cols.length=n) (hn:n ≤ 1000000) :
 Calls Tryz.prog 183 #[.slice A n c, .func (.func 184) #[] #[]] w fun e w'=>(∃ v,e = .returned v∧Owns w' w.heap.size 9 strCells 1 v (cols.map Col.name))∧Below w.heap.size w w':=by
 subst hcn
 obtain ⟨i0,hi0,hz0,hz1,hz2⟩:=info_parts infoStr
 have HC:=qh hC
 clear hC
 go_enter Tryz.func183,Tryz.ntmps183
 go_wp2_with fail
 obtain ⟨wo,rfl⟩ : ∃ wo:World,wo=w:=⟨_,rfl⟩
 go_loopw [5,10] (fun vo vi wr => ∃ m:Nat,m≤cols.length∧vi = .int .i64 m∧Owns wr wo.heap.size 9 strCells 1 vo ((cols.take m).map Col.name)∧Below wo.heap.size wo wr) (fun _ vi _=>cols.length - (intOf vi).toNat)
 case atStart=>exact ⟨0,Nat.zero_le _,rfl,Owns.nil,by exact belA⟩
 case round =>
  obtain ⟨m,hm,rfl,hown,hbr⟩:=hrel
  have hwz:=hbr.size
  have hrow:=hown.row
  have HOWN:=qh hown
  clear hown
  by_cases hlt:m<cols.length
  ·obtain ⟨b5,o5,rfl,hb5,hc5⟩:=(HC.out.below hbr).get hlt
   obtain ⟨h0,h1,h2,h3,h4,h5,h6⟩:=Col.cells7 hc5
   have HML:Hid (((cols.take m).map Col.name).length=m):=qh smA
   clear hc5
   go_wp2_with (first
    | (go_at_call 184;(with_reducible refine (col_name cols[m] _).mono ?_);rintro e w1 ⟨rfl,hb1⟩;have hx1:Below wo.heap.size wo w1:=below_nextN belA hb1 leA;have hO1:Owns w1 wo.heap.size 9 strCells 1 u5 ((cols.take m).map Col.name):=(HOWN.out.below brf nlr).below (below_nextN belA hb1 leA) nlr;have HO1:=qh hO1;clear hO1 hb1)
    | (at_builtin;go_must (refine wpList_append_list _ rfl (.tmp 14) (.tmp 18) 126 rfl 9 i0 _ strCells 1 16 Tryz.underlying126 hi0 hz0 hz1 hz2 rfl omA str_len str_one wo.heap.size u5 ((cols.take m).map Col.name) rfl (HO1.out.alloc _) _ _ _ [Col.name cols[m]] rfl rfl (Blk.one (enc:=strCells) (x:=Col.name cols[m]) (Blk.new' rfl) spA) (by rw [HML.out];simp;omega) (by rw [HML.out];simp [maxLen];omega) (by have:=hx1.size;simp;omega) ?_);intro v' w3 hown' hg' hat';have HOWN':=qh hown';clear hown';have hbel:Below wo.heap.size wo w3:=Below.grown (hx1.alloc (by have:=hx1.size;omega) _) hg' (by have:=hx1.size;simp;omega) hrow))
   go_roundw
   case rel=>exact ⟨m + 1,by omega,by go_num,by rw [List.take_succ_eq_append_getElem hlt,List.map_append];exact HOWN'.out,hbel⟩
   case measure=>exact meA
  ·have hlt':decide (m<cols.length)=false:=by simpa using hlt
   obtain rfl:m=cols.length:=by omega
   have ho:=HOWN.out
   rw [List.take_length] at ho
   have HO:=qh ho
   clear ho
   go_wp2_with fail
   go_ret
   exact ⟨⟨_,rfl,HO.out⟩,hbr⟩
theorem collect_types (A:Option Addr) (c n:Nat) (cols:List Col) (w:World) (hC:SliceIs w w.heap.size Col.cells 7 A cols) (hcn:cols.length=n) (hn:n ≤ 1000000) :
 Calls Tryz.prog 185 #[.slice A n c, .func (.func 186) #[] #[]] w fun e w'=>(∃ v,e = .returned v∧Owns w' w.heap.size 3 intCells 1 v (cols.map Col.ty))∧Below w.heap.size w w':=by
 subst hcn
 obtain ⟨i0,hi0,hz0,hz1,hz2⟩:=info_parts infoInt
 have HC:=qh hC
 clear hC
 go_enter Tryz.func185,Tryz.ntmps185
 go_wp2_with fail
 obtain ⟨wo,rfl⟩ : ∃ wo:World,wo=w:=⟨_,rfl⟩
 go_loopw [5,10] (fun vo vi wr => ∃ m:Nat,m≤cols.length∧vi = .int .i64 m∧Owns wr wo.heap.size 3 intCells 1 vo ((cols.take m).map Col.ty)∧Below wo.heap.size wo wr) (fun _ vi _=>cols.length - (intOf vi).toNat)
 case atStart=>exact ⟨0,Nat.zero_le _,rfl,Owns.nil,by exact belA⟩
 case round =>
  obtain ⟨m,hm,rfl,hown,hbr⟩:=hrel
  have hwz:=hbr.size
  have hrow:=hown.row
  have HOWN:=qh hown
  clear hown
  by_cases hlt:m<cols.length
  ·obtain ⟨b5,o5,rfl,hb5,hc5⟩:=(HC.out.below hbr).get hlt
   obtain ⟨h0,h1,h2,h3,h4,h5,h6⟩:=Col.cells7 hc5
   have HML:Hid (((cols.take m).map Col.ty).length=m):=qh smA
   clear hc5
   go_wp2_with (first
    | (go_at_call 186;(with_reducible refine (col_type cols[m] _).mono ?_);rintro e w1 ⟨rfl,hb1⟩;have hx1:Below wo.heap.size wo w1:=below_nextN belA hb1 leA;have hO1:Owns w1 wo.heap.size 3 intCells 1 u5 ((cols.take m).map Col.ty):=(HOWN.out.below brf nlr).below (below_nextN belA hb1 leA) nlr;have HO1:=qh hO1;clear hO1 hb1)
    | (at_builtin;go_must (refine wpList_append_list _ rfl (.tmp 14) (.tmp 18) 22 rfl 3 i0 _ intCells 1 8 Tryz.underlying22 hi0 hz0 hz1 hz2 rfl omA int_len int_one wo.heap.size u5 ((cols.take m).map Col.ty) rfl (HO1.out.alloc _) _ _ _ [Col.ty cols[m]] rfl rfl (Blk.one (enc:=intCells) (x:=Col.ty cols[m]) (Blk.new' rfl) spA) (by rw [HML.out];simp;omega) (by rw [HML.out];simp [maxLen];omega) (by have:=hx1.size;simp;omega) ?_);intro v' w3 hown' hg' hat';have HOWN':=qh hown';clear hown';have hbel:Below wo.heap.size wo w3:=Below.grown (hx1.alloc (by have:=hx1.size;omega) _) hg' (by have:=hx1.size;simp;omega) hrow))
   go_roundw
   case rel=>exact ⟨m + 1,by omega,by go_num,by rw [List.take_succ_eq_append_getElem hlt,List.map_append];exact HOWN'.out,hbel⟩
   case measure=>exact meA
  ·have hlt':decide (m<cols.length)=false:=by simpa using hlt
   obtain rfl:m=cols.length:=by omega
   have ho:=HOWN.out
   rw [List.take_length] at ho
   have HO:=qh ho
   clear ho
   go_wp2_with fail
   go_ret
   exact ⟨⟨_,rfl,HO.out⟩,hbr⟩
theorem col_earlier (b:Nat) (x y:Col) (w:World) (hB:Blk w b 79 #[.string x.name, .int .i64 x.ty, .string x.ns, .string x.refs, .slice x.A x.own.length x.cap, .int .i64 x.joint, .int .i64 x.duty]) (hne:y.name≠x.name) :
 Calls Tryz.prog 215 #[.agg #[.string y.name, .int .i64 y.ty, .string y.ns, .string y.refs, .slice y.A y.own.length y.cap, .int .i64 y.joint, .int .i64 y.duty], .pointer (some ⟨b,0,none⟩)] w fun e w'=>e = .returned (.bool false)∧Below w.heap.size w w':=by
 have hbl:=hB.lt
 obtain ⟨q0,_,_,_,_,_,_⟩:=Col.blk hB
 have hs:=strF hne
 clear hne hB
 go_enter Tryz.func215,Tryz.ntmps215
 go_wp2_with fail
 go_ret
 exact ⟨rfl,by exact belA⟩
theorem index_col (b:Nat) (x:Col) (A:Option Addr) (c n:Nat) (l:List Col) (w:World) (hB:Blk w b 79 #[.string x.name, .int .i64 x.ty, .string x.ns, .string x.refs, .slice x.A x.own.length x.cap, .int .i64 x.joint, .int .i64 x.duty]) (hl:SliceIs w w.heap.size Col.cells 7 A l) (hln:l.length=n) (hn:n ≤ 1000000) (hne : ∀ y∈l,y.name≠x.name) :
 Calls Tryz.prog 239 #[.slice A n c, .func (.func 215) #[] #[.pointer (some ⟨b,0,none⟩)]] w fun e w'=>e = .returned (.int .i64 (-1))∧Below w.heap.size w w':=by
 subst hln
 have HB:=qh hB
 have HL:=qh hl
 have HN:=qh hne
 have hbl:=hB.lt
 clear hB hl hne
 go_enter Tryz.func239,Tryz.ntmps239
 go_wp2
 go_loopw [8] (fun vi wr => ∃ m:Nat,m≤l.length∧vi = .int .i64 m∧Below w.heap.size w wr) (fun vi _=>l.length - (intOf vi).toNat)
 case atStart=>exact ⟨0,Nat.zero_le _,rfl,by exact belA⟩
 case round =>
  obtain ⟨m,hm,rfl,hbw⟩:=hrel
  by_cases hlt:m<l.length
  ·obtain ⟨b5,o5,rfl,hb5,hc5⟩:=(HL.out.below hbw).get hlt
   obtain ⟨h0,h1,h2,h3,h4,h5,h6⟩:=Col.cells7 hc5
   have HE:=qh (HN.out l[m] (lgm hlt))
   clear hc5
   go_wp2_with (go_at_call 215;(with_reducible refine (col_earlier b x l[m] _ (HB.out.below hbw hbl) HE.out).mono ?_);rintro e w1 ⟨rfl,hb1⟩;have hx1:Below w.heap.size w w1:=below_nextN hbw hb1 hbw.size)
   go_roundw
   case rel=>exact ⟨m + 1,by omega,by go_num,hx1⟩
   case measure=>exact meA
  ·have hlt':decide (m<l.length)=false:=by simpa using hlt
   go_wp2_with fail
   go_ret
   exact ⟨rfl,hbw⟩
theorem contains_col (b:Nat) (x:Col) (A:Option Addr) (c n:Nat) (l:List Col) (w:World) (hB:Blk w b 79 #[.string x.name, .int .i64 x.ty, .string x.ns, .string x.refs, .slice x.A x.own.length x.cap, .int .i64 x.joint, .int .i64 x.duty]) (hl:SliceIs w w.heap.size Col.cells 7 A l) (hln:l.length=n) (hn:n ≤ 1000000) (hne : ∀ y∈l,y.name≠x.name) :
 Calls Tryz.prog 214 #[.slice A n c, .func (.func 215) #[] #[.pointer (some ⟨b,0,none⟩)]] w fun e w'=>e = .returned (.bool false)∧Below w.heap.size w w':=by
 have HB:=qh hB
 have HL:=qh hl
 have HN:=qh hne
 clear hB hl hne
 go_enter Tryz.func214,Tryz.ntmps214
 go_wp2_with fail
 with_reducible refine (index_col b x A c n l _ HB.out HL.out hln hn HN.out).mono ?_
 rintro e w1 ⟨rfl,hb1⟩
 go_wp2_with fail
 go_ret
 exact ⟨rfl,hb1⟩
theorem index_int (A:Option Addr) (c n:Nat) (l:List Int) (x:Int) (w:World) (hl:SliceIs w w.heap.size intCells 1 A l) (hln:l.length=n) (hn:n ≤ 1000000) :
 Calls Tryz.prog 229 #[.slice A n c, .int .i64 x] w fun e w'=>(∃ k:Int,e = .returned (.int .i64 k)∧(0≤k↔x∈l))∧w=w':=by
 subst hln
 have HL:=qh hl
 clear hl
 go_enter Tryz.func229,Tryz.ntmps229
 go_wp2
 go_loopw [8] (fun vi wr => ∃ m:Nat,m≤l.length∧vi = .int .i64 m∧w=wr∧(∀ i (h:i<l.length),i<m→l[i]≠x)) (fun vi _=>l.length - (intOf vi).toNat)
 case atStart=>exact ⟨0,Nat.zero_le _,rfl,rfl,fun i _ h=>by omega⟩
 case round =>
  obtain ⟨m,hm,rfl,rfl,hok⟩:=hrel
  have HOK:=qh hok
  clear hok
  by_cases hlt:m<l.length
  ·obtain ⟨b5,o5,rfl,hb5,hc5⟩:=HL.out.get hlt
   have x0:=hc5 0 _ rfl
   simp only [Nat.mul_one,Nat.add_zero] at x0
   clear hc5
   cases he:(x==l[m])
   ·have HE:Hid (l[m]≠x):=qh (by have h : ¬ x=l[m]:=(by simpa using he);exact fun e=>h e.symm)
    go_wp2_with fail
    clear he
    go_roundw
    case rel=>exact ⟨m + 1,by omega,by go_num,trivial,fun i h hi=>by
     rcases Nat.lt_or_ge i m with h1|h1
     ·exact HOK.out i h h1
     ·obtain rfl:i=m:=by omega
      exact HE.out⟩
    case measure=>exact meA
   ·have HE:Hid (x∈l):=qh (by have h:x=l[m]:=(by simpa using he);rw [h];exact lgm hlt)
    go_wp2_with fail
    go_ret
    exact ⟨⟨_,rfl,fun _=>HE.out,fun _=>by omega⟩,rfl⟩
  ·have hlt':decide (m<l.length)=false:=by simpa using hlt
   go_wp2_with fail
   go_ret
   refine ⟨⟨_,rfl,fun h=>by omega,fun h => ?_⟩,rfl⟩
   obtain ⟨i,hi,he⟩:=List.getElem_of_mem h
   exact absurd he (HOK.out i hi omA)
theorem contains_int (A:Option Addr) (c n:Nat) (l:List Int) (x:Int) (w:World) (hl:SliceIs w w.heap.size intCells 1 A l) (hln:l.length=n) (hn:n ≤ 1000000) {r:Bool} (hr:decide (x∈l)=r) :
 Calls Tryz.prog 196 #[.slice A n c, .int .i64 x] w fun e w'=>e = .returned (.bool r)∧w=w':=by
 subst hr
 have HL:=qh hl
 clear hl
 go_enter Tryz.func196,Tryz.ntmps196
 go_wp2_with fail
 with_reducible refine (index_int A c n l x _ HL.out hln hn).mono ?_
 rintro e w1 ⟨⟨k,rfl,hk⟩,rfl⟩
 have HK:=qh hk
 clear hk
 go_wp2_with fail
 go_ret
 refine ⟨ret_bool ?_,rfl⟩
 rw [Bool.eq_iff_iff,decide_eq_true_iff,decide_eq_true_iff]
 exact HK.out
theorem cat_validOwners (nm:ByteArray) (TA:Option Addr) (tc cn:Nat) (cols:List Col) (er rt:Int) (A:Option Addr) (c n:Nat) (l:List Int) (w:World) (ht:SliceIs w w.heap.size Col.cells 7 TA cols) (hcn:cols.length=cn) (hl:SliceIs w w.heap.size intCells 1 A l) (hln:l.length=n) (hn:n ≤ 1000000) (hc:cn ≤ 1000000) (hok:OwnersOk cols l) :
 Calls Tryz.prog 217 #[.agg #[.string nm, .slice TA cn tc, .int .i64 er, .int .i64 rt], .slice A n c] w fun e w'=>e = .returned (.bool true)∧Below w.heap.size w w':=by
 subst hln hcn
 have HT:=qh ht
 have HL:=qh hl
 have HOK:=qh hok
 clear ht hl hok
 go_enter Tryz.func217,Tryz.ntmps217
 go_upto_region 1 with (fail)
 refine abs_world (P:=fun u=>Code.wp _ _ _ _ u) (R:=fun u=>Blk u w.heap.size 46 #[.string nm, .slice TA cols.length tc, .int .i64 er, .int .i64 rt]∧Below w.heap.size w u) ⟨?_,?_⟩ ?_
 ·exact Blk.new _ _ _
 ·exact belA
 rintro W ⟨hB,hbW⟩
 have hzW:=hB.lt
 have HB:=qh hB
 clear hB
 go_wp2_with fail
 go_loopw [5,11] (fun vb vi wr => ∃ m:Nat,∃ j:Int,m≤l.length∧vi = .int .i64 m∧vb = .int .i64 j∧(m = 0→j = -1)∧(∀ h:m - 1<l.length,0<m→j=l[m - 1])∧Below W.heap.size W wr) (fun _ vi _=>l.length - (intOf vi).toNat)
 case atStart=>exact ⟨0,-1,Nat.zero_le _,rfl,rfl,fun _=>rfl,fun _ h=>by omega,by exact belA⟩
 case round =>
  obtain ⟨m,j,hm,rfl,rfl,hj0,hj1,hbr⟩:=hrel
  have hwz:=hbr.size
  have hxr:=below_nextN hbW hbr hbW.size
  obtain ⟨q0,q1,q2,q3⟩:=Tab.blk (HB.out.below hbr hzW)
  by_cases hlt:m<l.length
  ·obtain ⟨b5,o5,rfl,hb5,hc5⟩:=(HL.out.below hxr).get hlt
   have x0:=hc5 0 _ rfl
   simp only [Nat.mul_one,Nat.add_zero] at x0
   have hown:=HOK.out m hlt
   obtain ⟨q,hq⟩ : ∃ q:Nat,l[m]=(q:Int):=⟨l[m].toNat,by have:=hown.lo;omega⟩
   have hjq:j<(q:Int):=by
    rcases Nat.eq_zero_or_pos m with h0|h0
    ·rw [hj0 h0];omega
    ·rw [hj1 omA h0,← hq];exact hown.asc h0
   have hql:q<cols.length:=by have:=hown.hi;omega
   have hsome : ¬ (cols[q].ns=⟨#[]⟩∧cols[q].refs=⟨#[]⟩):=by
    have h:=hown.some_
    have e:l[m].toNat=q:=by omega
    simp only [e] at h
    exact h
   have HQ:=qh hq
   rw [hq] at x0
   have d1:decide ((q:Int)≤j)=false:=by simp;omega
   have d2:decide (cols.length≤q)=false:=by simp;omega
   have d2':decide ((cols.length:Int)≤(q:Int))=false:=by simp;omega
   obtain ⟨b6,o6,rfl,hb6,hc6⟩:=(HT.out.below hxr).get hql
   obtain ⟨c0,c1,c2,c3,c4,c5,c6⟩:=Col.cells7 hc6
   clear hc5 hc6 hown hj0 hj1 hjq hq
   by_cases hns:cols[q].ns=⟨#[]⟩
   ·have hns':=empT hns
    have hrf':=empF fun h=>hsome ⟨hns,h⟩
    clear hsome hns
    go_wp2_with fail
    go_roundw
    case rel=>exact ⟨m + 1,q,by omega,by go_num,rfl,fun h=>by omega,fun h _=>by simp only [Nat.add_sub_cancel];exact HQ.out.symm,by exact belA⟩
    case measure=>exact meA
   ·have hns':=empF hns
    clear hsome hns
    go_wp2_with fail
    go_roundw
    case rel=>exact ⟨m + 1,q,by omega,by go_num,rfl,fun h=>by omega,fun h _=>by simp only [Nat.add_sub_cancel];exact HQ.out.symm,by exact belA⟩
    case measure=>exact meA
  ·have hlt':decide (m<l.length)=false:=by simpa using hlt
   go_wp2_with fail
   go_ret
   exact ⟨rfl,hxr⟩
theorem cat_validRules (nm:ByteArray) (TA:Option Addr) (tc cn:Nat) (er rt:Int) (x:Col) (w:World) (hj:withinB x.joint 0 1=true) (hd:withinB x.duty 0 1048576=true) (hp:x.own.length = 0→x.joint = 0∧x.duty = 0) (hr:rt = 0∨x.duty≤rt) :
 Calls Tryz.prog 218 #[.agg #[.string nm, .slice TA cn tc, .int .i64 er, .int .i64 rt], .agg #[.string x.name, .int .i64 x.ty, .string x.ns, .string x.refs, .slice x.A x.own.length x.cap, .int .i64 x.joint, .int .i64 x.duty]] w fun e w'=>e = .returned (.bool true)∧Below w.heap.size w w':=by
 have HD:=qh hd
 have hj':x.joint = 0∨x.joint = 1:=by
  rw [withinB,Bool.and_eq_true,decide_eq_true_iff,decide_eq_true_iff] at hj
  omega
 have HR:Hid ((rt == 0)=true∨((rt == 0)=false∧decide (x.duty≤rt)=true)):=qh (by
  by_cases h:rt = 0
  ·exact .inl (by simpa using h)
  ·exact .inr ⟨by simpa using h,by simpa using hr.resolve_left h⟩)
 clear hj hd hr
 by_cases h0:x.own.length = 0
 ·obtain ⟨e1,e2⟩:=hp h0
  have p0:decide (0<x.own.length)=false:=by simp [h0]
  have p1:(x.joint != 0)=false:=by simpa using e1
  have p2:(x.duty != 0)=false:=by simpa using e2
  clear hp h0 hj' e1 e2
  rcases HR.out with r1|⟨r1,r2⟩
  ·go_enter Tryz.func218,Tryz.ntmps218
   go_wp2_with (go_at_call 180;(with_reducible refine (cat_within _ _ _ _ HD.out).mono ?_);rintro e w1 ⟨rfl,rfl⟩)
   go_ret
   exact ⟨rfl,by exact belA⟩
  ·go_enter Tryz.func218,Tryz.ntmps218
   go_wp2_with (go_at_call 180;(with_reducible refine (cat_within _ _ _ _ HD.out).mono ?_);rintro e w1 ⟨rfl,rfl⟩)
   go_ret
   exact ⟨rfl,by exact belA⟩
 ·have p0:decide (0<x.own.length)=true:=by simp;omega
  clear hp h0
  cases p2:(x.duty != 0)
  ·rcases hj' with e1|e1
   ·have p1:(x.joint != 0)=false:=by simpa using e1
    clear e1
    rcases HR.out with r1|⟨r1,r2⟩
    ·go_enter Tryz.func218,Tryz.ntmps218
     go_wp2_with (go_at_call 180;(with_reducible refine (cat_within _ _ _ _ HD.out).mono ?_);rintro e w1 ⟨rfl,rfl⟩)
     go_ret
     exact ⟨rfl,by exact belA⟩
    ·go_enter Tryz.func218,Tryz.ntmps218
     go_wp2_with (go_at_call 180;(with_reducible refine (cat_within _ _ _ _ HD.out).mono ?_);rintro e w1 ⟨rfl,rfl⟩)
     go_ret
     exact ⟨rfl,by exact belA⟩
   ·have p1:(x.joint != 0)=true:=by rw [e1];rfl
    have p3:(x.joint != 1)=false:=by simpa using e1
    clear e1
    rcases HR.out with r1|⟨r1,r2⟩
    ·go_enter Tryz.func218,Tryz.ntmps218
     go_wp2_with (go_at_call 180;(with_reducible refine (cat_within _ _ _ _ HD.out).mono ?_);rintro e w1 ⟨rfl,rfl⟩)
     go_ret
     exact ⟨rfl,by exact belA⟩
    ·go_enter Tryz.func218,Tryz.ntmps218
     go_wp2_with (go_at_call 180;(with_reducible refine (cat_within _ _ _ _ HD.out).mono ?_);rintro e w1 ⟨rfl,rfl⟩)
     go_ret
     exact ⟨rfl,by exact belA⟩
  ·rcases hj' with e1|e1
   ·have p1:(x.joint != 0)=false:=by simpa using e1
    clear e1
    rcases HR.out with r1|⟨r1,r2⟩
    ·go_enter Tryz.func218,Tryz.ntmps218
     go_wp2_with (go_at_call 180;(with_reducible refine (cat_within _ _ _ _ HD.out).mono ?_);rintro e w1 ⟨rfl,rfl⟩)
     go_ret
     exact ⟨rfl,by exact belA⟩
    ·go_enter Tryz.func218,Tryz.ntmps218
     go_wp2_with (go_at_call 180;(with_reducible refine (cat_within _ _ _ _ HD.out).mono ?_);rintro e w1 ⟨rfl,rfl⟩)
     go_ret
     exact ⟨rfl,by exact belA⟩
   ·have p1:(x.joint != 0)=true:=by rw [e1];rfl
    have p3:(x.joint != 1)=false:=by simpa using e1
    clear e1
    rcases HR.out with r1|⟨r1,r2⟩
    ·go_enter Tryz.func218,Tryz.ntmps218
     go_wp2_with (go_at_call 180;(with_reducible refine (cat_within _ _ _ _ HD.out).mono ?_);rintro e w1 ⟨rfl,rfl⟩)
     go_ret
     exact ⟨rfl,by exact belA⟩
    ·go_enter Tryz.func218,Tryz.ntmps218
     go_wp2_with (go_at_call 180;(with_reducible refine (cat_within _ _ _ _ HD.out).mono ?_);rintro e w1 ⟨rfl,rfl⟩)
     go_ret
     exact ⟨rfl,by exact belA⟩
open Go.RowKit Go
structure Sto where
 NA:Option Addr
 nl:Nat
 nc:Nat
 TA:Option Addr
 tc:Nat
 ty:List Int
def Sto.cells (x:Sto):List Value := [.slice x.NA x.nl x.nc, .slice x.TA x.ty.length x.tc]
theorem sto_len : ∀ x:Sto,(Sto.cells x).length = 2:=fun _=>rfl
theorem sto_one : ∀ x:Sto,∀ u∈Sto.cells x,u.oneCell'=true:=by
 intro x u hu
 simp only [Sto.cells,List.mem_cons,List.not_mem_nil,or_false] at hu
 rcases hu with rfl|rfl <;> rfl
structure ChkRd (w:World) (g dm nm k:Nat) (A:Option Addr) (c:Nat) (ts:List Tab) (n:Nat) (SA:Option Addr) (sc:Nat) (st:List Sto):Prop where
 blk:Blk w g 176 #[.slice A ts.length c, .slice none 0 0, .slice none 0 0, .slice none 0 0, .slice none 0 0, .slice none 0 0, .slice none 0 0, .slice none 0 0, .map (some dm), .map (some nm), .slice SA n sc]
 nums:MapV Tryz.prog 9 3 w nm k (numF ts n)
 sto:SliceIs w w.heap.size Sto.cells 2 SA st
 len:st.length=n
 ty : ∀ j (h:j<st.length),SliceIs w w.heap.size intCells 1 st[j].TA st[j].ty
 at_ : ∀ j (h:j<st.length) (h':j<ts.length),st[j].ty=ts[j].cols.map Col.ty
theorem ChkRd.next {w w':World} {g dm nm k:Nat} {A:Option Addr} {c:Nat} {ts:List Tab} {n:Nat} {SA:Option Addr} {sc:Nat} {st:List Sto} (h:ChkRd w g dm nm k A c ts n SA sc st) (hb:Below w.heap.size w w'):ChkRd w' g dm nm k A c ts n SA sc st :=
 ⟨h.blk.below hb h.blk.lt,h.nums.below hb h.nums.lt,h.sto.next hb,h.len,fun j hj=>(h.ty j hj).next hb,h.at_⟩
theorem lexer_IsNameB (s:ByteArray) (w:World) (hs:s.size ≤ 1000000) {r:Bool} (hr:nameB s=r) :
 Calls Tryz.prog 213 #[.string s] w fun e w'=>e = .returned (.bool r)∧w=w':=by
 subst hr
 exact lexer_IsName s w hs
theorem nameB_ne {s:ByteArray} (h:nameB s=true):s≠⟨#[]⟩:=by
 rintro rfl
 exact absurd h (by decide)
theorem CatOk.noname {ts:List Tab} (h:CatOk ts) {n:Nat} (hn:n≤ts.length):findT ts ⟨#[]⟩ (n:Int) = -1:=by
 unfold findT
 refine findI_none fun i hi hin e => ?_
 have hi':i<ts.length:=by simpa using hi
 exact nameB_ne (h.tab i hi').name (by simpa using e)
theorem CatOk.notyet {ts:List Tab} (h:CatOk ts) {n:Nat} (hn:n<ts.length):findT ts ts[n].name (n:Int) < 0:=by
 unfold findT
 rw [findI_none fun i hi hin e => ?_]
 ·decide
 ·have hi':i<ts.length:=by simpa using hi
  exact (h.tab n hn).fresh i omA (by simpa using e)
structure ColOk (ts:List Tab) (cols:List Col) (er rt:Int) (i:Nat) (x:Col) (tg:Int):Prop where
 name:nameB x.name=true
 ns:x.ns=⟨#[]⟩∨(x.ns≠⟨#[]⟩∧nameB x.ns=true)
 fresh : ∀ y∈cols.take i,y.name≠x.name
 refs:(x.refs=⟨#[]⟩∧tg = -1)∨(x.refs≠⟨#[]⟩∧x.ns=⟨#[]⟩ ∧ 0≤tg)
 ty:(x.ty == 1||x.ty == 2)=true
 tty : 0≤tg→headTy ts tg=x.ty
 own:OwnersOk cols x.own
 joint:withinB x.joint 0 1=true
 duty:withinB x.duty 0 1048576=true
 none_:x.own.length = 0→x.joint = 0∧x.duty = 0
 ret:rt = 0∨x.duty≤rt
 first:i = 0 → 0<x.own.length→er = 1
 reach : 0≤tg → 0<(headOwn ts tg).length→(i:Int)∈x.own
theorem CatOk.colOk {ts:List Tab} (h:CatOk ts) {n:Nat} (hn:n<ts.length) {i:Nat} (hi:i<ts[n].cols.length):ColOk ts ts[n].cols ts[n].erase ts[n].retain i ts[n].cols[i] (findT ts ts[n].cols[i].refs (n:Int)):=by
 obtain ⟨h1,h2,h3,h4,h5,h6,h7⟩:=colErr_zero (h.col hn hi)
 obtain ⟨x,hx⟩ : ∃ x,ts[n].cols[i]=x:=⟨_,rfl⟩
 rw [hx] at h1 h2 h3 h4 h5 h6 h7 ⊢
 unfold cE1 at h1
 unfold cE2 at h2
 unfold cE3 at h3
 unfold cE4 at h4
 unfold cE5 at h5
 unfold cE6 at h6
 unfold cE7 at h7
 simp only [Bool.or_eq_false_iff,Bool.and_eq_false_iff,Bool.not_eq_false'] at h1 h3 h4 h5 h6 h7
 have hrefs:(x.refs=⟨#[]⟩∧findT ts x.refs (n:Int) = -1)∨(x.refs≠⟨#[]⟩∧x.ns=⟨#[]⟩ ∧ 0≤findT ts x.refs (n:Int)):=by
  by_cases hr:x.refs=⟨#[]⟩
  ·exact .inl ⟨hr,by rw [hr];exact h.noname (Nat.le_of_lt hn)⟩
  ·refine .inr ⟨hr,?_,?_⟩
   ·refine Classical.byContradiction fun hne => ?_
    rcases h5.1.1.1 with h|h
    ·rw [empF hne] at h;cases h
    ·rw [empF hr] at h;cases h
   ·rcases h3 with h|h
    ·rw [empF hr] at h;cases h
    ·simpa using h
 have hrs : 0≤findT ts x.refs (n:Int)→x.refs.toList.isEmpty=false:=by
  intro h0
  rcases hrefs with ⟨_,h⟩|⟨h,_⟩
  ·omega
  ·exact empF h
 refine ⟨h1.1,?_,?_,hrefs,?_,?_,pb_iff.1 h5.1.1.2,h5.1.2,h6.1.1,?_,?_,?_,?_⟩
 ·by_cases hne:x.ns=⟨#[]⟩
  ·exact .inl hne
  ·refine .inr ⟨hne,?_⟩
   rcases h1.2 with h|h
   ·rw [empF hne] at h;cases h
   ·exact h
 ·intro y hy e
  obtain ⟨k,hk,he⟩:=List.getElem_of_mem hy
  rw [List.getElem_take] at he
  have hk':k<i:=by simp at hk;omega
  have h3:=pb_true (p := ∃ k,∃ h:k<ts[n].cols.length,k<i∧ts[n].cols[k].name=x.name) ⟨k,by omega,hk',by rw [he,e]⟩
  rw [h2] at h3
  cases h3
 ·have:=h4.1
  simp only [bne_eq_false_iff_eq] at this
  rcases this with h|h
  ·simp [h]
  ·simp [h]
 ·intro h0
  rcases h4.2 with (h|h)|h
  ·rw [decide_eq_false_iff_not] at h;omega
  ·rw [hrs h0] at h;cases h
  ·simpa using h
 ·intro h0
  rcases h5.2 with h|h
  ·rw [beq_eq_false_iff_ne] at h;omega
  ·simpa using h
 ·rcases h6.1.2 with h|h
  ·exact .inl (by simpa using h)
  ·exact .inr (by simpa using h)
 ·intro h0 h1
  rcases h6.2 with (h|h)|h
  ·rw [beq_eq_false_iff_ne] at h;omega
  ·rw [decide_eq_false_iff_not] at h;omega
  ·simpa using h
 ·intro h0 h1
  rcases h7 with (h|h)|h
  ·rw [hrs h0] at h;cases h
  ·rw [decide_eq_false_iff_not] at h;omega
  ·simpa using h
open Go.RowKit Go
theorem chk_column (g dm nm k:Nat) (A:Option Addr) (c:Nat) (ts:List Tab) (n:Nat) (SA:Option Addr) (sc:Nat) (st:List Sto) (i:Nat) (tn:ByteArray) (TA:Option Addr) (tc:Nat) (cols:List Col) (er rt:Int) (w:World) (hI:ChkRd w g dm nm k A c ts n SA sc st) (ht:TabsIn w w.heap.size A ts) (hs:SaneCat ts) (hok:CatOk ts) (hn:n<ts.length) (hnt:ts[n]=⟨tn,TA,tc,cols,er,rt⟩) (hi:i<cols.length) :
 Calls Tryz.prog 181 #[.pointer (some ⟨g,0,none⟩), .agg #[.string tn, .slice TA cols.length tc, .int .i64 er, .int .i64 rt], .int .i64 i] w fun e w'=>e = .returned (.int .i64 0)∧Below w.heap.size w w':=by
 have hcs:ColsIn w w.heap.size TA cols:=by have:=ht.2 ts[n] (lgm hn);rw [hnt] at this;exact this
 have hc:ColOk ts cols er rt i cols[i] (findT ts cols[i].refs (n:Int)):=by
  have:=hok.colOk hn (i:=i) (by rw [hnt];exact hi)
  simp only [hnt] at this
  exact this
 have hst:=(hs.tabs ts[n] (lgm hn))
 rw [hnt] at hst
 have hcl:cols.length ≤ 1000000:=hst.len
 have hcap:cols.length≤tc:=hst.cap
 have hit:i≤tc:=by omega
 obtain ⟨z1,z2,z3,z4⟩:=hst.cols cols[i] (lgm hi)
 have hio:SliceIs w w.heap.size intCells 1 cols[i].A cols[i].own:=hcs.2 cols[i] (lgm hi)
 obtain ⟨b5,o5,rfl,hb5,hc5⟩:=hcs.1.get hi
 obtain ⟨c0,c1,c2,c3,c4,c5,c6⟩:=Col.cells7 hc5
 obtain ⟨x,hx⟩ : ∃ x,cols[i]=x:=⟨_,rfl⟩
 rw [hx] at hc z1 z2 z3 z4 hio c0 c1 c2 c3 c4 c5 c6
 obtain ⟨tg,htg⟩ : ∃ tg,findT ts x.refs (n:Int)=tg:=⟨_,rfl⟩
 rw [htg] at hc
 have hcols : ∀ j (h:j<ts.length),0<ts[j].cols.length:=fun j h=>(hok.cols h).1
 have hlen:=hs.len
 have HI:=qh hI
 have HT:=qh ht
 have HCS:=qh hcs.1
 have HT1:=qh ht.1
 have HC:=qh hc
 have HIO:=qh hio
 have HTG:=qh htg
 have HP:=qh hcols
 clear hI ht hcs hc hio htg hcols hst hnt hok hs hc5 hx
 go_enter Tryz.func181,Tryz.ntmps181
 go_upto_region 2 with (fail)
 refine abs_world (P:=fun u=>Code.wp _ _ _ _ u) (R:=fun u=>Blk u w.heap.size 46 #[.string tn, .slice (some ⟨b5,o5,none⟩) cols.length tc, .int .i64 er, .int .i64 rt]∧Blk u (w.heap.size + 1) 79 #[.string x.name, .int .i64 x.ty, .string x.ns, .string x.refs, .slice x.A x.own.length x.cap, .int .i64 x.joint, .int .i64 x.duty]∧Below w.heap.size w u) ⟨?_,?_,?_⟩ ?_
 ·exact (Blk.new _ _ _).alloc _
 ·exact Blk.new' spA
 ·exact belA
 clear c0 c1 c2 c3 c4 c5 c6
 rintro W ⟨hBT,hBX,hbW⟩
 have hz2:=hBT.lt
 have hz3:=hBX.lt
 have HBT:=qh hBT
 have HBX:=qh hBX
 have HIW:=qh (HI.out.next hbW)
 obtain ⟨q0,q1,q2,q3⟩:=Tab.blk hBT
 obtain ⟨r0,r1,r2,r3,r4,r5,r6⟩:=Col.blk hBX
 clear hBT hBX
 go_cut [29] (fun v wc=>v = .bool false∧W=wc)
 case first =>
  rcases HC.out.ns with hns|⟨hns,hnb⟩
  ·have hns':=empT hns
   have HN:Hid (nameB x.ns=nameB x.ns):=qh rfl
   clear hns
   go_wp2_with (go_at_call 213;(first|(with_reducible refine (lexer_IsNameB x.name _ z1 HC.out.name).mono ?_)|(with_reducible refine (lexer_IsNameB x.ns _ z2 HN.out).mono ?_));rintro e w1 ⟨rfl,rfl⟩)
   go_meet
   exact ⟨rfl,rfl⟩
  ·have hns':=empF hns
   have HN:=qh hnb
   clear hns hnb
   go_wp2_with (go_at_call 213;(first|(with_reducible refine (lexer_IsNameB x.name _ z1 HC.out.name).mono ?_)|(with_reducible refine (lexer_IsNameB x.ns _ z2 HN.out).mono ?_));rintro e w1 ⟨rfl,rfl⟩)
   go_meet
   exact ⟨rfl,rfl⟩
 case rest =>
  obtain ⟨rfl,rfl⟩:=hcut
  go_upto_region 4 with (fail)
  go_cut [35] (fun v wc=>v = .bool false∧Below W.heap.size W wc)
  case first =>
   go_wp2_with (go_at_call 214;(with_reducible refine (contains_col (w.heap.size + 1) x _ _ i (cols.take i) _ HBX.out (SliceIs.take (HCS.out.next hbW) i) smA omA HC.out.fresh).mono ?_);rintro e w1 ⟨rfl,hb1⟩)
   go_meet
   exact ⟨rfl,hb1⟩
  case rest =>
   obtain ⟨rfl,hb1⟩:=hcut
   obtain ⟨W1,rfl⟩ : ∃ W1:World,W1=wc:=⟨_,rfl⟩
   have hx1:Below w.heap.size w W1:=below_nextN hbW hb1 hbW.size
   clear q0 q1 q2 q3 r0 r1 r2 r3 r4 r5 r6
   obtain ⟨q0,q1,q2,q3⟩:=Tab.blk (HBT.out.below hb1 hz2)
   obtain ⟨r0,r1,r2,r3,r4,r5,r6⟩:=Col.blk (HBX.out.below hb1 hz3)
   go_upto_region 6 with (fail)
   go_cut [8] (fun v wc=>v = .int .i64 tg∧Below W.heap.size W wc)
   case first =>
    go_wp2_with (go_at_call 187;(with_reducible refine (chk_find A c dm nm g k (.slice SA n sc) ts n x.refs _ (HIW.out.next hb1).blk (HIW.out.next hb1).nums z3 HTG.out).mono ?_);rintro e w1 ⟨rfl,hb2⟩)
    go_meet
    exact ⟨rfl,below_nextN hb1 hb2 hb1.size⟩
   case rest =>
    obtain ⟨rfl,hb2⟩:=hcut
    obtain ⟨W2,rfl⟩ : ∃ W2:World,W2=wc:=⟨_,rfl⟩
    have hx2:Below w.heap.size w W2:=below_nextN hbW hb2 hbW.size
    clear q0 q1 q2 q3 r0 r1 r2 r3 r4 r5 r6 hb1 hx1
    obtain ⟨q0,q1,q2,q3⟩:=Tab.blk (HBT.out.below hb2 hz2)
    obtain ⟨r0,r1,r2,r3,r4,r5,r6⟩:=Col.blk (HBX.out.below hb2 hz3)
    have HI2:=qh (HIW.out.next hb2)
    obtain ⟨p0,p8,p9,p10⟩:=Chk.blk HI2.out.blk
    have hgz:=HI2.out.blk.lt
    go_upto_region 7 with (fail)
    go_cut [46] (fun v wc=>v = .bool false∧W2=wc)
    case first =>
     rcases HC.out.refs with ⟨hr,ht0⟩|⟨hr,hn0,ht0⟩
     ·have hr':=empT hr
      clear hr ht0
      go_wp2_with fail
      go_meet
      exact ⟨rfl,rfl⟩
     ·have hr':=empF hr
      have d0:decide (tg < 0)=false:=by simp;omega
      clear hr ht0 hn0
      go_wp2_with fail
      go_meet
      exact ⟨rfl,rfl⟩
    case rest =>
     obtain ⟨rfl,rfl⟩:=hcut
     go_upto_region 9 with (fail)
     go_cut [69] (fun v wc=>v = .bool false∧Below W2.heap.size W2 wc)
     case first =>
      have hk0:=keepQ (w:=W2) g hgz
      have hk1:=keepQ (w:=W2) (w.heap.size + 1) (by have:=hb2.size;omega)
      have HTY:=qh HC.out.ty
      by_cases h0 : 0≤tg
      ·have d0:decide (0≤tg)=true:=by simpa using h0
       have htt:=HC.out.tty h0
       obtain ⟨m,hm⟩ : ∃ m:Nat,tg=(m:Int):=⟨tg.toNat,by omega⟩
       have hmn:m<n:=by
        have h1:=HTG.out
        rw [hm] at h1
        unfold findT at h1
        obtain ⟨q,hq,e1,e2,_⟩:=findI_get (l:=ts.map Tab.name) (s:=x.refs) (n:=min (n:Int) ts.length) omA
        omega
       have hml:m<st.length:=by rw [HI2.out.len];exact hmn
       have hmt:m<ts.length:=by omega
       obtain ⟨b6,o6,hbe,hb6,hc6⟩:=HI2.out.sto.get hml
       have hty:=HI2.out.at_ m hml hmt
       have htl : 0<st[m].ty.length:=by rw [hty,List.length_map];exact HP.out m hmt
       obtain ⟨b7,o7,hbe7,hb7,hc7⟩:=(HI2.out.ty m hml).get htl
       have x0:=hc7 0 _ rfl
       have y0:=hc6 0 _ rfl
       have y1:=hc6 1 _ rfl
       have hv:st[m].ty[0]=x.ty:=by
        rw [← htt,hm,headTy_at hmt (HP.out m hmt)]
        simp only [hty,List.getElem_map]
       simp only [Nat.mul_one,Nat.add_zero,hv] at x0
       rw [hbe7] at y1
       subst hbe hm
       have hk2:=keepQ (w:=W2) b6 hb6
       have hk3:=keepQ (w:=W2) b7 hb7
       have hne:(x.ty != x.ty)=false:=by simp
       have hnn:=HI2.out.len
       clear hc6 hc7 htt hty hv hbe7 h0 y0
       refine wp_region_bel krA krA ?_;(repeat (go_big_quiet_step ((go_at_call 216;with_reducible exact bel_of_same (cat_isType _ _ HTY.out)))));refine wpQuiet_nil ?_;intro wq hq
       go_wp2_with fail
       go_meet
       exact ⟨rfl,hq⟩
      ·have d0:decide (0≤tg)=false:=by simpa using h0
       clear h0
       refine wp_region_bel krA krA ?_;(repeat (go_big_quiet_step ((go_at_call 216;with_reducible exact bel_of_same (cat_isType _ _ HTY.out)))));refine wpQuiet_nil ?_;intro wq hq
       go_wp2_with fail
       go_meet
       exact ⟨rfl,hq⟩
     case rest =>
      obtain ⟨rfl,hb3⟩:=hcut
      obtain ⟨W3,rfl⟩ : ∃ W3:World,W3=wc:=⟨_,rfl⟩
      have hy3:Below W.heap.size W W3:=below_nextN hb2 hb3 hb2.size
      have hx3:Below w.heap.size w W3:=below_nextN hbW hy3 hbW.size
      clear q0 q1 q2 q3 r0 r1 r2 r3 r4 r5 r6 p0 p8 p9 p10
      obtain ⟨q0,q1,q2,q3⟩:=Tab.blk (HBT.out.below hy3 hz2)
      obtain ⟨r0,r1,r2,r3,r4,r5,r6⟩:=Col.blk (HBX.out.below hy3 hz3)
      go_upto_region 11 with (fail)
      go_cut [90] (fun v wc=>v = .bool false∧Below W.heap.size W wc)
      case first =>
       rcases HC.out.refs with ⟨hr,ht0⟩|⟨hr,hn0,ht0⟩
       ·have hr':=empT hr
        clear hr ht0
        rcases HC.out.ns with hns|⟨hns,hnb⟩
        ·have hns':=empT hns
         clear hns
         go_wp2_with (first
         | (go_at_call 217;(with_reducible refine (cat_validOwners tn _ tc cols.length cols er rt x.A x.cap x.own.length x.own _ (HCS.out.next hx3) rfl (HIO.out.next hx3) rfl z4 hcl HC.out.own).mono ?_);rintro e w1 ⟨rfl,hb1⟩;have hy4:Below W.heap.size W w1:=below_nextN hy3 hb1 hy3.size;clear q0 q1 q2 q3 r0 r1 r2 r3 r4 r5 r6;obtain ⟨q0,q1,q2,q3⟩:=Tab.blk (HBT.out.below hy4 hz2);obtain ⟨r0,r1,r2,r3,r4,r5,r6⟩:=Col.blk (HBX.out.below hy4 hz3);have HY4:=qh hy4)
         | (go_at_call 218;(with_reducible refine (cat_validRules tn _ tc cols.length er rt x _ HC.out.joint HC.out.duty HC.out.none_ HC.out.ret).mono ?_);rintro e w2 ⟨rfl,hb2⟩;have HY5:=qh (below_nextN HY4.out hb2 HY4.out.size)))
         go_meet
         exact ⟨rfl,HY5.out⟩
        ·have hns':=empF hns
         clear hns hnb
         go_wp2_with (first
         | (go_at_call 217;(with_reducible refine (cat_validOwners tn _ tc cols.length cols er rt x.A x.cap x.own.length x.own _ (HCS.out.next hx3) rfl (HIO.out.next hx3) rfl z4 hcl HC.out.own).mono ?_);rintro e w1 ⟨rfl,hb1⟩;have hy4:Below W.heap.size W w1:=below_nextN hy3 hb1 hy3.size;clear q0 q1 q2 q3 r0 r1 r2 r3 r4 r5 r6;obtain ⟨q0,q1,q2,q3⟩:=Tab.blk (HBT.out.below hy4 hz2);obtain ⟨r0,r1,r2,r3,r4,r5,r6⟩:=Col.blk (HBX.out.below hy4 hz3);have HY4:=qh hy4)
         | (go_at_call 218;(with_reducible refine (cat_validRules tn _ tc cols.length er rt x _ HC.out.joint HC.out.duty HC.out.none_ HC.out.ret).mono ?_);rintro e w2 ⟨rfl,hb2⟩;have HY5:=qh (below_nextN HY4.out hb2 HY4.out.size)))
         go_meet
         exact ⟨rfl,HY5.out⟩
       ·have hns':=empT hn0
        clear hr ht0 hn0
        go_wp2_with (first
        | (go_at_call 217;(with_reducible refine (cat_validOwners tn _ tc cols.length cols er rt x.A x.cap x.own.length x.own _ (HCS.out.next hx3) rfl (HIO.out.next hx3) rfl z4 hcl HC.out.own).mono ?_);rintro e w1 ⟨rfl,hb1⟩;have hy4:Below W.heap.size W w1:=below_nextN hy3 hb1 hy3.size;clear q0 q1 q2 q3 r0 r1 r2 r3 r4 r5 r6;obtain ⟨q0,q1,q2,q3⟩:=Tab.blk (HBT.out.below hy4 hz2);obtain ⟨r0,r1,r2,r3,r4,r5,r6⟩:=Col.blk (HBX.out.below hy4 hz3);have HY4:=qh hy4)
        | (go_at_call 218;(with_reducible refine (cat_validRules tn _ tc cols.length er rt x _ HC.out.joint HC.out.duty HC.out.none_ HC.out.ret).mono ?_);rintro e w2 ⟨rfl,hb2⟩;have HY5:=qh (below_nextN HY4.out hb2 HY4.out.size)))
        go_meet
        exact ⟨rfl,HY5.out⟩
      case rest =>
       obtain ⟨rfl,hy4⟩:=hcut
       obtain ⟨W4,rfl⟩ : ∃ W4:World,W4=wc:=⟨_,rfl⟩
       have hx4:Below w.heap.size w W4:=below_nextN hbW hy4 hbW.size
       clear q0 q1 q2 q3 r0 r1 r2 r3 r4 r5 r6
       obtain ⟨q0,q1,q2,q3⟩:=Tab.blk (HBT.out.below hy4 hz2)
       obtain ⟨r0,r1,r2,r3,r4,r5,r6⟩:=Col.blk (HBX.out.below hy4 hz3)
       have HI4:=qh (HIW.out.next hy4)
       obtain ⟨p0,p8,p9,p10⟩:=Chk.blk HI4.out.blk
       go_upto_region 14 with (fail)
       go_cut [104] (fun v wc=>v = .bool false∧W4=wc)
       case first =>
        by_cases h0:i = 0
        ·have e0:((i:Int) == 0)=true:=by rw [h0];rfl
         by_cases h1 : 0<x.own.length
         ·have e1:decide (0<x.own.length)=true:=by simpa using h1
          have e2:(er != 1)=false:=by simpa using HC.out.first h0 h1
          clear h0 h1
          go_wp2_with fail
          go_meet
          exact ⟨rfl,rfl⟩
         ·have e1:decide (0<x.own.length)=false:=by simpa using h1
          clear h0 h1
          go_wp2_with fail
          go_meet
          exact ⟨rfl,rfl⟩
        ·have e0:((i:Int) == 0)=false:=by simpa using h0
         clear h0
         go_wp2_with fail
         go_meet
         exact ⟨rfl,rfl⟩
       case rest =>
        obtain ⟨rfl,rfl⟩:=hcut
        by_cases h0 : 0≤tg
        ·have d0:decide (0≤tg)=true:=by simpa using h0
         have hrc:=HC.out.reach h0
         obtain ⟨m,hm⟩ : ∃ m:Nat,tg=(m:Int):=⟨tg.toNat,by omega⟩
         have hmn:m<n:=by
          have h1:=HTG.out
          rw [hm] at h1
          unfold findT at h1
          obtain ⟨q,hq,e1,e2,_⟩:=findI_get (l:=ts.map Tab.name) (s:=x.refs) (n:=min (n:Int) ts.length) omA
          omega
         have hmt:m<ts.length:=by omega
         have hpm:=HP.out m hmt
         obtain ⟨b6,o6,hbe,hb6,hc6⟩:=(HT1.out.next hx4).get hmt
         obtain ⟨s0,s1,s2,s3⟩:=Tab.cells4 hc6
         obtain ⟨b7,o7,hbe7,hb7,hc7⟩:=((HT.out.2 ts[m] (lgm hmt)).1.next hx4).get (HP.out m hmt)
         obtain ⟨u0,u1,u2,u3,u4,u5,u6⟩:=Col.cells7 hc7
         rw [hm,headOwn_at hmt (HP.out m hmt)] at hrc
         rw [hbe7] at s1
         simp only [Nat.zero_mul,Nat.add_zero] at u4
         subst hbe hm
         clear hc6 hc7 h0 hbe7 s0 s2 s3 u0 u1 u2 u3 u5 u6
         by_cases h1 : 0<ts[m].cols[0].own.length
         ·have e1:decide (0<ts[m].cols[0].own.length)=true:=by simpa using h1
          have HM:Hid (decide ((i:Int)∈x.own)=true):=qh (by simpa using hrc h1)
          clear hrc h1
          go_wp2_with (go_at_call 196;(with_reducible refine (contains_int x.A x.cap x.own.length x.own i _ (HIO.out.next hx4) rfl z4 HM.out).mono ?_);rintro e w1 ⟨rfl,rfl⟩)
          go_ret
          exact ⟨rfl,hx4⟩
         ·have e1:decide (0<ts[m].cols[0].own.length)=false:=by simpa using h1
          clear hrc h1
          go_wp2_with fail
          go_ret
          exact ⟨rfl,hx4⟩
        ·have d0:decide (0≤tg)=false:=by simpa using h0
         clear h0
         go_wp2_with fail
         go_ret
         exact ⟨rfl,hx4⟩
open Go.RowKit Go
theorem MapV.neBlk {P:Program} {k e:TypeId} {w:World} {b n:Nat} {f:Value→Option Value} (h:MapV P k e w b n f) {g:Nat} {t:TypeId} {cs:Array Value} (hB:Blk w g t cs):b≠g:=by
 rintro rfl
 obtain ⟨D,⟨es,clock,hs,F⟩,h'⟩:=h
 unfold Blk at hB
 rw [hB] at hs
 cases hs
theorem MapV.neOwn {P:Program} {k e:TypeId} {w:World} {b n:Nat} {f:Value→Option Value} (h:MapV P k e w b n f) {α : Type} {base:Nat} {t:TypeId} {enc : α → List Value} {s:Nat} {v:Value} {l:List α} (ho:Owns w base t enc s v l) : ∀ q,v.ownBlock=some q→q≠b:=by
 intro q hq e
 obtain ⟨cs,hc⟩:=ho.typ hq
 exact h.neBlk (g:=q) (t:=t) (cs:=cs) hc e.symm
theorem infoSto:(Tryz.prog.info? 243).map (fun i=>(i.zero,i.size,i.bytes))=some (some (.agg #[.slice none 0 0, .slice none 0 0]),2,48):=by kernel_rfl
structure ChkIn (w:World) (B g dm nm:Nat) (A:Option Addr) (c:Nat) (ts:List Tab) (d n:Nat) (v:Value) (st:List Sto):Prop where
 blk:Blk w g 176 #[.slice A ts.length c, .slice none 0 0, .slice none 0 0, .slice none 0 0, .slice none 0 0, .slice none 0 0, .slice none 0 0, .slice none 0 0, .map (some dm), .map (some nm),v]
 decl:MapV Tryz.prog 9 4 w dm d (declF ts d)
 nums:MapV Tryz.prog 9 3 w nm n (numF ts n)
 own:Owns w B 243 Sto.cells 2 v st
 ty : ∀ x∈st,Owns w B 3 intCells 1 (.slice x.TA x.ty.length x.tc) x.ty
 len:st.length=n
 at_ : ∀ j (h:j<st.length) (h':j<ts.length),st[j].ty=ts[j].cols.map Col.ty
 hg:B≤g
 hd:B≤dm
 hn:B≤nm
 ne:dm≠nm
section
variable {w w':World} {B g dm nm:Nat} {A:Option Addr} {c:Nat} {ts:List Tab} {d n:Nat} {v:Value} {st:List Sto}
theorem ChkIn.next (h:ChkIn w B g dm nm A c ts d n v st) (hb:Below w.heap.size w w'):ChkIn w' B g dm nm A c ts d n v st :=
 ⟨h.blk.below hb h.blk.lt,h.decl.below hb h.decl.lt,h.nums.below hb h.nums.lt,h.own.below hb nlr,fun x hx=>(h.ty x hx).below hb nlr,h.len,h.at_,h.hg,h.hd,h.hn,h.ne⟩
theorem ChkIn.declared (h:ChkIn w B g dm nm A c ts d n v st) {d':Nat} (hM:MapV Tryz.prog 9 4 w' dm d' (declF ts d')) (hg:w.grownBy w' (some dm)):ChkIn w' B g dm nm A c ts d' n v st :=
 ⟨h.blk.grown hg (fun e=>h.decl.neBlk h.blk (Option.some.inj e).symm),hM,h.nums.kept hg (fun e=>h.ne (Option.some.inj e).symm),
  h.own.kept hg (fun q hq e=>h.decl.neOwn h.own q hq (Option.some.inj e)),fun x hx=>(h.ty x hx).kept hg (fun q hq e=>h.decl.neOwn (h.ty x hx) q hq (Option.some.inj e)),h.len,h.at_,h.hg,h.hd,h.hn,h.ne⟩
theorem ChkIn.rd (h:ChkIn w B g dm nm A c ts d n v st) : ∃ SA sc,v = .slice SA n sc∧ChkRd w g dm nm n A c ts n SA sc st:=by
 obtain ⟨SA,sc,hv,hc,hs,ha⟩:=h.own.slice sto_len
 rw [h.len] at hv
 refine ⟨SA,sc,hv,?_,h.nums,hs,h.len,fun j hj => ?_,h.at_⟩
 ·rw [← hv];exact h.blk
 ·obtain ⟨A',c',e,_,hs',_⟩:=(h.ty st[j] (lgm hj)).slice int_len
  injection e with e _ _
  rw [e]
  exact hs'
theorem ChkIn.added {w2 M w3:World} {x:Sto} {v3:Value} (h:ChkIn w B g dm nm A c ts d n v st) (hgW:w.grownBy w2 (some nm)) (hM2:MapV Tryz.prog 9 3 w2 nm (n + 1) (numF ts (n + 1))) (hMb:Below w2.heap.size w2 M) (hg3:M.grownBy w3 v.ownBlock) (ho3:Owns w3 B 243 Sto.cells 2 v3 (st ++ [x])) (hx:Owns w B 3 intCells 1 (.slice x.TA x.ty.length x.tc) x.ty) (hn:n<ts.length) (hxt:x.ty=ts[n].cols.map Col.ty) :
 ChkIn (w3.setCell ⟨g,10,none⟩ v3) B g dm nm A c ts d (n + 1) v3 (st ++ [x]):=by
 have n1 : ∀ q,v.ownBlock=some q→some q≠some nm:=fun q hq e=>h.nums.neOwn h.own q hq (Option.some.inj e)
 have k1:Blk M g 176 _:=(h.blk.grown hgW (fun e=>h.nums.neBlk h.blk (Option.some.inj e).symm)).below hMb (Nat.lt_of_lt_of_le h.blk.lt hgW.size)
 have k2:Owns M B 243 Sto.cells 2 v st:=(h.own.kept hgW n1).below hMb nlr
 have k3:Blk w3 g 176 _:=k1.grown hg3 (fun e=>k2.neBlk k1 (by decide) g e.symm rfl)
 have d1:MapV Tryz.prog 9 4 w3 dm d (declF ts d):=by
  have m:MapV Tryz.prog 9 4 M dm d (declF ts d):=(h.decl.kept hgW (fun e=>h.ne (Option.some.inj e))).below hMb (Nat.lt_of_lt_of_le h.decl.lt hgW.size)
  exact m.kept hg3 (fun e=>m.neOwn k2 dm e.symm rfl)
 have d2:MapV Tryz.prog 9 3 w3 nm (n + 1) (numF ts (n + 1)):=by
  have m:=hM2.below hMb hM2.lt
  exact m.kept hg3 (fun e=>m.neOwn k2 nm e.symm rfl)
 have d3 : ∀ y∈st ++ [x],Owns w3 B 3 intCells 1 (.slice y.TA y.ty.length y.tc) y.ty:=by
  intro y hy
  have h0:Owns w B 3 intCells 1 (.slice y.TA y.ty.length y.tc) y.ty:=by
   rcases List.mem_append.1 hy with hy|hy
   ·exact h.ty y hy
   ·rw [List.mem_singleton.1 hy];exact hx
  have m:=(h0.kept hgW (fun q hq e=>h.nums.neOwn h0 q hq (Option.some.inj e))).below hMb nlr
  exact m.kept hg3 (m.neType k2 (by decide))
 refine ⟨?_,d1.setCell (d1.neBlk k3) v3,d2.setCell (d2.neBlk k3) v3,ho3.far (ho3.neBlk k3 (by decide)) v3,fun y hy=>(d3 y hy).far ((d3 y hy).neBlk k3 (by decide)) v3,by rw [List.length_append,h.len];rfl,fun j hj hj' => ?_,h.hg,h.hd,h.hn,h.ne⟩
 ·exact (k3.set_ 10 v3).eq spA
 ·rcases Nat.lt_or_ge j st.length with hl|hl
  ·rw [List.getElem_append_left hl]
   exact h.at_ j hl hj'
  ·have e:j=n:=by have:=h.len;simp at hj;omega
   subst e
   rw [List.getElem_append_right hl]
   simpa [h.len] using hxt
theorem Blk.apart {w:World} {g q:Nat} {t t':TypeId} {cs cs':Array Value} (h:Blk w g t cs) (h':Blk w q t' cs') (ht:t≠t'):g≠q:=by
 rintro rfl
 unfold Blk at h h'
 rw [h] at h'
 injection h' with h'
 injection h' with _ h' _
 exact ht h'
theorem ChkIn.others {w2 M w3:World} {v3:Value} (h:ChkIn w B g dm nm A c ts d n v st) (hgW:w.grownBy w2 (some nm)) (hMb:Below w2.heap.size w2 M) (hg3:M.grownBy w3 v.ownBlock) {q:Nat} {t:TypeId} {cs:Array Value} (ht : 243≠t) (ht':t ≠ 176) (hq:Blk w q t cs):Blk (w3.setCell ⟨g,10,none⟩ v3) q t cs:=by
 have n1 : ∀ q,v.ownBlock=some q→some q≠some nm:=fun q hq e=>h.nums.neOwn h.own q hq (Option.some.inj e)
 have k1:=(h.blk.grown hgW (fun e=>h.nums.neBlk h.blk (Option.some.inj e).symm)).below hMb (Nat.lt_of_lt_of_le h.blk.lt hgW.size)
 have k2:Owns M B 243 Sto.cells 2 v st:=(h.own.kept hgW n1).below hMb nlr
 have k3:=k1.grown hg3 (fun e=>k2.neBlk k1 (by decide) g e.symm rfl)
 have q1:Blk M q t cs:=(hq.grown hgW (fun e=>h.nums.neBlk hq (Option.some.inj e).symm)).below hMb (Nat.lt_of_lt_of_le hq.lt hgW.size)
 have q2:Blk w3 q t cs:=q1.grown hg3 (fun e=>k2.neBlk q1 ht q e.symm rfl)
 exact q2.far (q2.apart k3 ht') v3
end
theorem chk_add (B g dm nm:Nat) (A:Option Addr) (c:Nat) (ts:List Tab) (d n:Nat) (v:Value) (st:List Sto) (x:Sto) (w:World) (hI:ChkIn w B g dm nm A c ts d n v st) (hn:n<ts.length) (h8:ts.length ≤ 8) (hs:ts[n].name.size ≤ 1000000) (hfr:findT ts ts[n].name (n:Int) < 0) (hx:Owns w B 3 intCells 1 (.slice x.TA x.ty.length x.tc) x.ty) (hxt:x.ty=ts[n].cols.map Col.ty) (hB:B≤w.heap.size) :
 Calls Tryz.prog 182 #[.pointer (some ⟨g,0,none⟩), .string ts[n].name, .agg #[.slice x.NA x.nl x.nc, .slice x.TA x.ty.length x.tc]] w fun e w' =>
  (e = .returned (.tuple #[]) ∧ ∃ v',ChkIn w' B g dm nm A c ts d (n + 1) v' (st ++ [x]))∧Below B w w' ∧ ∀ q t cs,243≠t→t ≠ 176→Blk w q t cs→Blk w' q t cs:=by
 obtain ⟨i0,hi0,hz0,hz1,hz2⟩:=info_parts infoSto
 obtain ⟨SA,sc,rfl,_⟩:=hI.rd
 have HI:=qh hI
 have HX:=qh hx
 have HF:=qh hfr
 have HXT:=qh hxt
 clear hI hx hfr hxt
 go_enter Tryz.func182,Tryz.ntmps182
 go_upto_region 1 with (fail)
 refine abs_world (P:=fun u=>Code.wp _ _ _ _ u) (R:=fun u=>ChkIn u B g dm nm A c ts d n (.slice SA n sc) st∧Blk u w.heap.size 243 x.cells.toArray∧Owns u B 3 intCells 1 (.slice x.TA x.ty.length x.tc) x.ty∧Below w.heap.size w u) ⟨?_,?_,?_,?_⟩ ?_
 ·exact HI.out.next belA
 ·exact Blk.new _ _ _
 ·exact HX.out.alloc _
 ·exact belA
 rintro W ⟨hi,hbx,hox,hbW⟩
 have hxz:=hbx.lt
 have hgz:=hi.blk.lt
 obtain ⟨p0,p8,p9,p10⟩:=Chk.blk hi.blk
 have HI1:=qh hi
 have HBX:=qh hbx
 have HOX:=qh hox
 have hxg:w.heap.size≠nm:=fun e=>hi.nums.neBlk hbx e.symm
 have hgg:g≠nm:=fun e=>hi.nums.neBlk hi.blk e.symm
 have hmx:n<maxLen:=by unfold maxLen;omega
 have hwf:(Lit.int .i64 (n:Int)).wf=true:=by (have h1:IntKind.i64.min≤(n:Int):=Int.le_trans (by decide) (Int.natCast_nonneg n);simp [Lit.wf,h1];omega)
 clear hi hbx hox
 obtain ⟨w2,hrun,hst,hg2⟩:=(MapV.drew HI1.out.nums).store str_keyed Tryz.underlying136 hmx (str_key hs) (pe_int hwf)
 have HM2:=qh (hst (numF ts (n + 1)) (numF_new hn HF.out) fun u hu=>numF_old hn hu)
 have hgW:W.grownBy w2 (some nm):=⟨hg2.os,hg2.tape,hg2.output,hg2.size,hg2.block⟩
 have s9:=(World.cell?_of_block (a:=⟨g,9,none⟩) (hgW.block g hgz (fun e=>hgg (Option.some.inj e)))).trans p9
 have s10:=(World.cell?_of_block (a:=⟨g,10,none⟩) (hgW.block g hgz (fun e=>hgg (Option.some.inj e)))).trans p10
 clear hst
 refine wp_region_held_drew (S:=fun u=>u.cell? ⟨g,9,none⟩=some (.map (some nm))∧u.cell? ⟨g,10,none⟩=some (.slice SA n sc)) krA ⟨p9,p10⟩ (fun hHeld => ?_)
 refine tkH 0 hHeld ?_
 refine tkH 1 hHeld ?_
 refine tkH 2 hHeld ?_
 refine tkH 3 hHeld ?_
 refine tkH 4 hHeld ?_
 refine tkH 5 hHeld ?_
 refine tkH 6 hHeld ?_
 refine tkH 7 hHeld ?_
 refine tkH 8 hHeld ?_
 refine tkH 9 hHeld ?_
 refine wpAnyH_ready (rs := [10]) krA spA ?_
 refine AllReadyH.cons rfl (fun K hK => ?_) AllReadyH.nil
 go_simp
 refine hK.out _ _ ⟨s9,s10⟩ (fun hHeld => ?_)
 clear hK K
 refine wpAnyH_done krA ?_ _
 have hgz2:g<w2.heap.size:=Nat.lt_of_lt_of_le hgz hgW.size
 have hb2:Blk w2 g 176 #[.slice A ts.length c, .slice none 0 0, .slice none 0 0, .slice none 0 0, .slice none 0 0, .slice none 0 0, .slice none 0 0, .slice none 0 0, .map (some dm), .map (some nm), .slice SA n sc]:=HI1.out.blk.grown hgW (fun e=>hgg (Option.some.inj e))
 have hbx2:Blk w2 w.heap.size 243 x.cells.toArray:=HBX.out.grown hgW (fun e=>hxg (Option.some.inj e))
 have hown2:Owns w2 B 243 Sto.cells 2 (.slice SA n sc) st:=HI1.out.own.kept hgW (fun q hq e=>HI1.out.nums.neOwn HI1.out.own q hq (Option.some.inj e))
 have hbz2:w.heap.size<w2.heap.size:=hbx2.lt
 have x0:w2.cell? ⟨w.heap.size,0,none⟩=some (.slice x.NA x.nl x.nc):=hbx2.cell 0
 have x1:w2.cell? ⟨w.heap.size,1,none⟩=some (.slice x.TA x.ty.length x.tc):=hbx2.cell 1
 have hlen3:(st ++ [x]).length=n + 1:=by rw [List.length_append,HI1.out.len];rfl
 obtain ⟨M,hM⟩ : ∃ M,(w2.alloc (.cells #[.slice x.NA x.nl x.nc, .slice x.TA x.ty.length x.tc] 243)).drew=M:=⟨_,rfl⟩
 have hbM:Blk M g 176 #[.slice A ts.length c, .slice none 0 0, .slice none 0 0, .slice none 0 0, .slice none 0 0, .slice none 0 0, .slice none 0 0, .slice none 0 0, .map (some dm), .map (some nm), .slice SA n sc]:=by rw [← hM];exact (hb2.alloc _).drew
 have hxM:Blk M w.heap.size 243 x.cells.toArray:=by rw [← hM];exact (hbx2.alloc _).drew
 have hownM:Owns M B 243 Sto.cells 2 (.slice SA n sc) st:=by rw [← hM];exact Owns.drew (Owns.alloc hown2 _)
 have hMz:M.heap.size=w2.heap.size + 1:=by rw [← hM];show (w2.alloc _).heap.size=_;simp
 have hsM:SliceIs M M.heap.size Sto.cells 2 (some ⟨w2.heap.size,0,none⟩) [x]:=Blk.one (enc:=Sto.cells) (x:=x) (by rw [← hM];exact Blk.drew (Blk.new' rfl)) omA
 have hng : ∀ q,(Value.slice SA n sc).ownBlock=some q→q≠g:=hownM.neBlk hbM (by decide)
 have m10:M.cell? ⟨g,10,none⟩=some (.slice SA n sc):=hbM.cell 10
 have m0:M.cell? ⟨w.heap.size,0,none⟩=some (.slice x.NA x.nl x.nc):=hxM.cell 0
 have m1:M.cell? ⟨w.heap.size,1,none⟩=some (.slice x.TA x.ty.length x.tc):=hxM.cell 1
 have HBM:=qh hbM
 have HOM:=qh hownM
 have HXM:=qh hxM
 have hnx : ∀ q,(Value.slice SA n sc).ownBlock=some q→q≠w.heap.size:=fun q hq e=>by have:=HI.out.own.lt q hq;omega
 have HB2:=qh hb2
 clear hbM hownM hb2
 go_upto_region 2 with (fail)
 refine wp_region_T (S:=fun u=>u.cell? ⟨g,10,none⟩=some (.slice SA n sc)∧u.cell? ⟨w.heap.size,0,none⟩=some (.slice x.NA x.nl x.nc)∧u.cell? ⟨w.heap.size,1,none⟩=some (.slice x.TA x.ty.length x.tc)) [10] krA ⟨s10,x0,x1⟩ (fun hHeld => ?_)
 refine tkT 0 hHeld ?_
 refine tkT 1 hHeld ?_
 refine tkT 2 hHeld ?_
 refine tkT 3 hHeld ?_
 refine tkT 4 hHeld ?_
 refine tkT 5 hHeld ?_
 refine r1T 6 (fun K hK => ?_)
 go_simp
 refine hK.out _ _ _ ⟨m10,m0,m1⟩ (fun hHeld => ?_)
 clear hK K
 refine r1T 7 (fun K hK => ?_)
 refine step_append_list M rfl (.tmp 20) (.tmp 22) 174 rfl 243 i0 _ Sto.cells 2 48 Tryz.underlying174 hi0 hz0 hz1 hz2 rfl omA sto_len sto_one B (.slice SA n sc) st rfl HOM.out (some ⟨w2.heap.size,0,none⟩) 1 1 [x] rfl rfl hsM (by have:=HI1.out.len;simp;omega) (by have:=HI1.out.len;simp [maxLen];omega) (by have:=hbW.size;have:=hgW.size;omega) ?_
 intro v3 w3 hown3 hg3 hat3
 obtain ⟨A3,c3,rfl,_,_⟩:=hown3.form
 rw [hlen3] at hown3 hat3
 have hb3:Blk w3 g 176 #[.slice A ts.length c, .slice none 0 0, .slice none 0 0, .slice none 0 0, .slice none 0 0, .slice none 0 0, .slice none 0 0, .slice none 0 0, .map (some dm), .map (some nm), .slice SA n sc]:=HBM.out.grown hg3 (fun e=>hng g e.symm rfl)
 have n10:w3.cell? ⟨g,10,none⟩=some (.slice SA n sc):=hb3.cell 10
 have nf:w3.frozen? ⟨g,10,none⟩=false:=hb3.frozen 10
 have HB3:=qh hb3
 have HG3:=qh hg3
 have HO3:=qh hown3
 have hx3:Blk w3 w.heap.size 243 x.cells.toArray:=HXM.out.grown hg3 (fun e=>hnx _ e.symm rfl)
 have y0:w3.cell? ⟨w.heap.size,0,none⟩=some (.slice x.NA x.nl x.nc):=hx3.cell 0
 have y1:w3.cell? ⟨w.heap.size,1,none⟩=some (.slice x.TA x.ty.length x.tc):=hx3.cell 1
 rw [hlen3]
 refine hK.out _ _ _ ⟨n10,y0,y1⟩ (fun hHeld => ?_)
 clear hK K hb3 hown3 hg3 hx3
 (try simp only [Act.put,gP6])
 refine r1T 8 (fun K hK => ?_)
 go_simp
 refine hK.out _ _ _ ⟨n10,y0,y1⟩ (fun hHeld => ?_)
 clear hK K
 refine tkT 9 hHeld ?_
 refine rzT 10 (fun K hK => ?_)
 go_simp
 refine hK.out _ _ _ ?_
 clear hK K
 refine wpT_done krA ?_ _
 go_end0
 have hMb:Below w2.heap.size w2 M:=by rw [← hM];exact (brf.alloc nlr _).drew
 have hbl:Below B w (w3.setCell ⟨g,10,none⟩ (.slice A3 (n + 1) c3)):=by
  refine Below.setCell (p:=⟨g,10,none⟩) (Below.grown ((Below.grown (hbW.mono hB) hgW (by have:=hbW.size;omega) (fun q e => ?_)).trans (hMb.mono ?_)) HG3.out ?_ (fun q hq=>HI.out.own.row q hq)) HI.out.hg _
  ·injection e with e
   rw [← e]
   exact HI.out.hn
  ·have:=hbW.size
   have:=hgW.size
   omega
  ·have:=hbW.size
   have:=hgW.size
   omega
 exact ⟨⟨rfl,_,ChkIn.added HI1.out hgW HM2.out hMb HG3.out HO3.out HOX.out hn HXT.out⟩,hbl,fun q t cs ht ht' hq=>HI1.out.others hgW hMb HG3.out ht ht' (hq.below hbW hq.lt)⟩
end Go.Proofs.YtkiglflbngfelaaGreat
