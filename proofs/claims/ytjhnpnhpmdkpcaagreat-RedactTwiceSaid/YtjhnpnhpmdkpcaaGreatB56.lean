/-
  Contracts and plain laws of this seat, part 56: Vsn, RedP, RedS, RedC, MapC.
-/
import Derived.Test.YtjhnpnhpmdkpcaaGreatB1
import Derived.Test.YtjhnpnhpmdkpcaaGreatB2
import Derived.Test.YtjhnpnhpmdkpcaaGreatB9
import Derived.Test.YtjhnpnhpmdkpcaaGreatB7
import Derived.Test.YtjhnpnhpmdkpcaaGreatB3
import Derived.Test.YtjhnpnhpmdkpcaaGreatB24
import Derived.DeepKeys4
set_option linter.unusedVariables false
set_option linter.unusedSimpArgs false
set_option maxRecDepth 100000
set_option maxHeartbeats 16000000
namespace Go.Proofs.YtjhnpnhpmdkpcaaGreat
open Go.RowKit Go
structure Vn where
 tab:Int
 col:Int
 seq:Int
instance:DecidableEq Vn:=fun a b =>
 if h:a.tab=b.tab∧a.col=b.col∧a.seq=b.seq then isTrue (by obtain ⟨_,_,_⟩:=a;obtain ⟨_,_,_⟩:=b;simp at h;simp [h])
 else isFalse (fun e=>h (by simp [e]))
instance:Inhabited Vn:=⟨⟨0,0,0⟩⟩
def Vn.cells (x:Vn):List Value := [.int .i64 x.tab, .int .i64 x.col, .int .i64 x.seq]
theorem vn_len : ∀ x:Vn,(Vn.cells x).length = 3:=fun _=>rfl
theorem vn_one : ∀ x:Vn,∀ u∈Vn.cells x,u.oneCell'=true:=by
 intro x u hu
 simp only [Vn.cells,List.mem_cons,List.not_mem_nil,or_false] at hu
 rcases hu with rfl|rfl|rfl <;> rfl
theorem infoVn:(Tryz.prog.info? 56).map (fun i=>(i.zero,i.size,i.bytes))=some (some (.agg #[.int .i64 0, .int .i64 0, .int .i64 0]),3,24):=by kernel_rfl
def VnsIn (l:List Vn):Prop := ∀ s∈l,(-1≤s.tab∧s.tab ≤ 1000)∧(-1≤s.col∧s.col ≤ 1000000) ∧ 0≤s.seq∧s.seq ≤ 1073741824
theorem VnsIn.snoc {l:List Vn} (h:VnsIn l) {s:Vn} (hs:(-1≤s.tab∧s.tab ≤ 1000)∧(-1≤s.col∧s.col ≤ 1000000) ∧ 0≤s.seq∧s.seq ≤ 1073741824):VnsIn (l ++ [s]):=fun x hx=>by
 rcases List.mem_append.1 hx with h1|h1
 ·exact h x h1
 ·rw [List.mem_singleton.1 h1];exact hs
theorem int_litsV {d:Nat} {a:Int} (ha : -9223372036854775808≤a∧a ≤ 9223372036854775807):Tryz.prog.keyLits (d + 1) 3 [.int .i64 a]=some [.int .i64 a]:=by
 have hw:(Lit.int .i64 a).wf=true:=by
  have h1:IntKind.i64.min≤a:=Int.le_trans (by decide) ha.1
  simp [Lit.wf,h1];omega
 unfold Program.keyLits
 rw [Tryz.underlying3]
 simp [hw]
def vnV (s:Vn):Value := .agg #[.int .i64 s.tab, .int .i64 s.col, .int .i64 s.seq]
theorem vn_key {a b c:Int} (ha : -9223372036854775808≤a∧a ≤ 9223372036854775807) (hb : -9223372036854775808≤b∧b ≤ 9223372036854775807) (hc : -9223372036854775808≤c∧c ≤ 9223372036854775807) : ∃ kl,Go.keyOf Tryz.prog 56 (.agg #[.int .i64 a, .int .i64 b, .int .i64 c])=some kl:=by
 have hsz:Tryz.prog.cellsOf 56 = 3:=by kernel_rfl
 have hs3:Tryz.prog.cellsOf 3 = 1:=by kernel_rfl
 have hkt:Tryz.prog.keyType 56=true:=by kernel_rfl
 obtain ⟨n,hn⟩ : ∃ n,Tryz.prog.types.size=n + 1:=⟨Tryz.prog.types.size - 1,by kernel_rfl⟩
 have hf:(Value.agg #[.int .i64 a, .int .i64 b, .int .i64 c]).formed Tryz.prog 56=true:=by
  unfold Value.formed
  rw [Tryz.underlying56,hsz]
  rfl
 have hl:Tryz.prog.keyLits (Tryz.prog.types.size + 1) 56 [.int .i64 a, .int .i64 b, .int .i64 c]=some [.int .i64 a, .int .i64 b, .int .i64 c]:=by
  rw [hn]
  unfold Program.keyLits
  rw [Tryz.underlying56]
  simp [hsz,hs3,int_litsV ha,int_litsV hb,int_litsV hc]
 refine ⟨.string (keyBytes [.int .i64 a, .int .i64 b, .int .i64 c]),?_⟩
 unfold Go.keyOf
 rw [Tryz.underlying56,hkt,hf]
 show Option.map (fun ls=>Lit.string (keyBytes ls)) (Tryz.prog.keyLits (Tryz.prog.types.size + 1) 56 [.int .i64 a, .int .i64 b, .int .i64 c])=_
 rw [hl]
 rfl
theorem VnsIn.key {l:List Vn} (h:VnsIn l) {s:Vn} (hs:s∈l) : ∃ kl,Go.keyOf Tryz.prog 56 (vnV s)=some kl:=by
 obtain ⟨⟨h1,h2⟩,⟨h3,h4⟩,h5,h6⟩:=h s hs
 exact vn_key ⟨by omega,by omega⟩ ⟨by omega,by omega⟩ ⟨by omega,by omega⟩
open Go.RowKit Go
def redRow (v:List Vn) (i:Nat) (row:List Val) (seq:List Int):List Val:=row.mapIdx fun j x=>if 0<j∧(⟨(i:Int),(j:Int),seq.getD j 0⟩:Vn)∈v then ⟨0,0,⟨#[]⟩⟩ else x
def redR (v:List Vn) (i:Nat) (r:PRec):PRec:=(redRow v i r.1 r.2.1,r.2.1,r.2.2)
def stays (s:List Src) (i:Nat) (r:PRec):Bool := !decide ((⟨(i:Int),r.2.1.headD 0⟩:Src)∈s)
def redT (v:List Vn) (s:List Src) (i:Nat) (l:List PRec):List PRec:=(l.filter (stays s i)).map (redR v i)
def redE (v:List Vn) (s:List Src) (pl:List (List PRec)):List (List PRec):=pl.mapIdx (redT v s)
theorem redRow_len (v:List Vn) (i:Nat) (row:List Val) (seq:List Int):(redRow v i row seq).length=row.length:=by simp [redRow]
theorem redE_len (v:List Vn) (s:List Src) (pl:List (List PRec)):(redE v s pl).length=pl.length:=by simp [redE]
theorem redE_get (v:List Vn) (s:List Src) (pl:List (List PRec)) {i:Nat} (h:i<pl.length):(redE v s pl)[i]'(by rw [redE_len];exact h)=redT v s i pl[i]:=by simp [redE]
open Go.RowKit Go
noncomputable def pbS (p:Prop):Bool := @decide p (Classical.propDecidable p)
theorem pbS_iff {p:Prop}:pbS p=true↔p:=by unfold pbS;exact @decide_eq_true_iff p (Classical.propDecidable p)
theorem pbS_true {p:Prop} (h:p):pbS p=true:=pbS_iff.2 h
section
variable {α : Type}
noncomputable def setF (V : α → Value) (l:List α):Value→Option Value:=fun v=>(l.find? fun s=>pbS (V s=v)).map fun _ => .bool true
theorem setF_mem {V : α → Value} {l:List α} {s : α} (h:s∈l):setF V l (V s)=some (.bool true):=by
 unfold setF
 cases hf:l.find? (fun s'=>pbS (V s'=V s)) with
 | none =>
   rw [List.find?_eq_none] at hf
   exact absurd (pbS_true rfl) (hf s h)
 | some s'=>rfl
theorem setF_not {V : α → Value} {l:List α} {v:Value} (h : ∀ s∈l,V s≠v):setF V l v=none:=by
 unfold setF
 rw [List.find?_eq_none.2 fun s hs=>by rw [pbS_iff];exact h s hs]
 rfl
theorem setF_new (V : α → Value) (l:List α) (s : α):setF V (l ++ [s]) (V s)=some (.bool true):=setF_mem spA
theorem setF_old {V : α → Value} {l:List α} {s : α} {u:Value} (h:u≠V s):setF V (l ++ [s]) u=setF V l u:=by
 unfold setF
 rw [List.find?_append]
 have e : [s].find? (fun s'=>pbS (V s'=u))=none:=by
  rw [List.find?_eq_none]
  intro x hx
  rw [List.mem_singleton.1 hx,pbS_iff]
  exact fun e=>h e.symm
 rw [e]
 cases l.find? (fun s'=>pbS (V s'=u)) <;> rfl
theorem setF_get [DecidableEq α] {V : α → Value} (hi : ∀ a b,V a=V b→a=b) (l:List α) (s : α):(setF V l (V s)).getD (.bool false) = .bool (decide (s∈l)):=by
 by_cases h:s∈l
 ·rw [setF_mem h];simp [h]
 ·rw [setF_not fun x hx e=>h (by rw [← hi _ _ e];exact hx)];simp [h]
end
theorem vnV_inj (a b:Vn) (h:vnV a=vnV b):a=b:=by
 obtain ⟨a1,a2,a3⟩:=a
 obtain ⟨b1,b2,b3⟩:=b
 unfold vnV at h
 injection h with h
 simp only [Array.mk.injEq,List.cons.injEq,Value.int.injEq,true_and,and_true] at h
 rw [h.1,h.2.1,h.2.2]
def srcK (s:Src):Value := .agg #[.int .i64 s.tab, .int .i64 s.seq]
theorem srcK_inj (a b:Src) (h:srcK a=srcK b):a=b:=by
 obtain ⟨a1,a2⟩:=a
 obtain ⟨b1,b2⟩:=b
 unfold srcK at h
 injection h with h
 simp only [Array.mk.injEq,List.cons.injEq,Value.int.injEq,true_and,and_true] at h
 rw [h.1,h.2]
theorem vn_keyed:Maps.Keyed Tryz.prog 56:=Maps.Keyed.of_law (deep_law_laid (m := 5) krA (by decide) (of_decide_eq_true krA) krA krA)
theorem srcK_keyed:Maps.Keyed Tryz.prog 51:=Maps.Keyed.of_law (deep_law_laid (m := 5) krA (by decide) (of_decide_eq_true krA) krA krA)
theorem srcK_key {a b:Int} (ha : -9223372036854775808≤a∧a ≤ 9223372036854775807) (hb : -9223372036854775808≤b∧b ≤ 9223372036854775807) : ∃ kl,Go.keyOf Tryz.prog 51 (.agg #[.int .i64 a, .int .i64 b])=some kl:=by
 have hsz:Tryz.prog.cellsOf 51 = 2:=by kernel_rfl
 have hs3:Tryz.prog.cellsOf 3 = 1:=by kernel_rfl
 have hkt:Tryz.prog.keyType 51=true:=by kernel_rfl
 obtain ⟨n,hn⟩ : ∃ n,Tryz.prog.types.size=n + 1:=⟨Tryz.prog.types.size - 1,by kernel_rfl⟩
 have hf:(Value.agg #[.int .i64 a, .int .i64 b]).formed Tryz.prog 51=true:=by
  unfold Value.formed
  rw [Tryz.underlying51,hsz]
  rfl
 have hl:Tryz.prog.keyLits (Tryz.prog.types.size + 1) 51 [.int .i64 a, .int .i64 b]=some [.int .i64 a, .int .i64 b]:=by
  rw [hn]
  unfold Program.keyLits
  rw [Tryz.underlying51]
  simp [hsz,hs3,int_litsV ha,int_litsV hb]
 refine ⟨.string (keyBytes [.int .i64 a, .int .i64 b]),?_⟩
 unfold Go.keyOf
 rw [Tryz.underlying51,hkt,hf]
 show Option.map (fun ls=>Lit.string (keyBytes ls)) (Tryz.prog.keyLits (Tryz.prog.types.size + 1) 51 [.int .i64 a, .int .i64 b])=_
 rw [hl]
 rfl
theorem made_set {α : Type} (w:World) (k:TypeId) (V : α → Value):MapH Tryz.prog k (w.alloc (.map #[] 0)) w.heap.size 0 (setF V []):=(MapH.made w _ _).eqf fun x kl _=>rfl
theorem red_setOfV (A:Option Addr) (c n:Nat) (l:List Vn) (w:World) (hl:SliceIs w w.heap.size Vn.cells 3 A l) (hln:l.length=n) (hn:n ≤ 1000000) (hk : ∀ s∈l,∃ kl,Go.keyOf Tryz.prog 56 (vnV s)=some kl) :
 Calls Tryz.prog 37 #[.slice A n c] w fun e w'=>(∃ b,e = .returned (.map (some b))∧w.heap.size≤b∧MapH Tryz.prog 56 w' b n (setF vnV l))∧Below w.heap.size w w':=by
 subst hln
 have hmm := @run_makeMap Tryz.prog
 have HL:=qh hl
 have HK:=qh hk
 clear hl hk
 go_enter Tryz.func37,Tryz.ntmps37
 go_upto_region 2 with (fail)
 clear hmm
 go_wp2_with fail
 go_loopw [9] (fun vi wr => ∃ i:Nat,i≤l.length∧vi = .int .i64 i∧MapH Tryz.prog 56 wr w.heap.size i (setF vnV (l.take i))∧Below w.heap.size w wr) (fun vi _=>l.length - (intOf vi).toNat)
 case atStart=>exact ⟨0,Nat.zero_le _,rfl,made_set w _ _,by exact belA⟩
 case round =>
  obtain ⟨i,hi,rfl,hM,hbr⟩:=hrel
  have hwz:=hbr.size
  have hMl:=hM.lt
  have HM:=qh hM
  clear hM
  by_cases hlt:i<l.length
  ·obtain ⟨b5,o5,rfl,hb5,hc5⟩:=(HL.out.below hbr).get hlt
   have s0:=hc5 0 _ rfl
   have s1:=hc5 1 _ rfl
   have s2:=hc5 2 _ rfl
   simp only [Nat.add_zero] at s0 s1 s2
   obtain ⟨kl,hkl⟩:=HK.out _ (lgm hlt)
   have hts:=List.take_succ_eq_append_getElem hlt
   obtain ⟨⟨tb,cl,sq⟩,hs⟩ : ∃ x,l[i]=x:=⟨_,rfl⟩
   rw [hs] at s0 s1 s2 hkl hts
   have HNEW:Hid (setF vnV (l.take (i + 1)) (.agg #[.int .i64 tb, .int .i64 cl, .int .i64 sq])=some (.bool true)):=qh (by rw [hts];exact setF_new vnV _ (⟨tb,cl,sq⟩:Vn))
   have HOLD:Hid (∀ u,u ≠ .agg #[.int .i64 tb, .int .i64 cl, .int .i64 sq]→setF vnV (l.take (i + 1)) u=setF vnV (l.take i) u):=qh fun u hu=>by rw [hts];exact setF_old (s:=(⟨tb,cl,sq⟩:Vn)) hu
   simp only at s0 s1 s2
   unfold vnV at hkl
   simp only at hkl
   clear hc5 hs hts
   go_upto_region 5 with (fail)
   refine abs_world (P:=fun u=>Code.wp _ _ _ _ u) (R:=fun u=>Blk u wr.heap.size 56 #[.int .i64 tb, .int .i64 cl, .int .i64 sq]∧Below wr.heap.size wr u) ⟨?_,?_⟩ ?_
   ·first|exact Blk.new _ _ _|exact Blk.new' rfl
   ·exact belA
   rintro U ⟨hD,hbU⟩
   have hDl:=hD.lt
   have hyU:=below_nextN hbr hbU hwz
   have HMU:=qh (HM.out.below hbU hMl)
   have v0:=hD.cell 0
   have v1:=hD.cell 1
   have v2:=hD.cell 2
   simp only [gE3] at v0 v1 v2
   clear s0 s1 s2 hD
   go_wp2_with (at_mapUpdate;refine wpList_storeH _ rfl _ _ _ _ rfl 56 4 vn_keyed Tryz.underlying88 w.heap.size i _ rfl HMU.out (by unfold maxLen;omega) (.agg #[.int .i64 tb, .int .i64 cl, .int .i64 sq]) _ rfl hkl (.bool true) rfl (setF vnV (l.take (i + 1))) HNEW.out HOLD.out ?_;intro w3 hM3 hg3)
   go_roundw
   case rel=>exact ⟨i + 1,by omega,by go_num,hM3,Below.grown hyU hg3 omA (fun q e=>by injection e with e;omega)⟩
   case measure=>exact meA
  ·have hlt':decide (i<l.length)=false:=by simpa using hlt
   obtain rfl:i=l.length:=by omega
   have HMW:Hid (MapH Tryz.prog 56 wr w.heap.size l.length (setF vnV l)):=qh (by have h:=HM.out;rwa [List.take_length] at h)
   go_wp2_with fail
   go_ret
   exact ⟨⟨_,rfl,Nat.le_refl _,HMW.out⟩,hbr⟩
theorem red_setOfS (A:Option Addr) (c n:Nat) (l:List Src) (w:World) (hl:SliceIs w w.heap.size Src.cells 2 A l) (hln:l.length=n) (hn:n ≤ 1000000) (hk : ∀ s∈l,∃ kl,Go.keyOf Tryz.prog 51 (srcK s)=some kl) :
 Calls Tryz.prog 38 #[.slice A n c] w fun e w'=>(∃ b,e = .returned (.map (some b))∧w.heap.size≤b∧MapH Tryz.prog 51 w' b n (setF srcK l))∧Below w.heap.size w w':=by
 subst hln
 have hmm := @run_makeMap Tryz.prog
 have HL:=qh hl
 have HK:=qh hk
 clear hl hk
 go_enter Tryz.func38,Tryz.ntmps38
 go_upto_region 2 with (fail)
 clear hmm
 go_wp2_with fail
 go_loopw [9] (fun vi wr => ∃ i:Nat,i≤l.length∧vi = .int .i64 i∧MapH Tryz.prog 51 wr w.heap.size i (setF srcK (l.take i))∧Below w.heap.size w wr) (fun vi _=>l.length - (intOf vi).toNat)
 case atStart=>exact ⟨0,Nat.zero_le _,rfl,made_set w _ _,by exact belA⟩
 case round =>
  obtain ⟨i,hi,rfl,hM,hbr⟩:=hrel
  have hwz:=hbr.size
  have hMl:=hM.lt
  have HM:=qh hM
  clear hM
  by_cases hlt:i<l.length
  ·obtain ⟨b5,o5,rfl,hb5,hc5⟩:=(HL.out.below hbr).get hlt
   have s0:=hc5 0 _ rfl
   have s1:=hc5 1 _ rfl
   simp only [Nat.add_zero] at s0 s1
   obtain ⟨kl,hkl⟩:=HK.out _ (lgm hlt)
   have hts:=List.take_succ_eq_append_getElem hlt
   obtain ⟨⟨tb,sq⟩,hs⟩ : ∃ x,l[i]=x:=⟨_,rfl⟩
   rw [hs] at s0 s1 hkl hts
   have HNEW:Hid (setF srcK (l.take (i + 1)) (.agg #[.int .i64 tb, .int .i64 sq])=some (.bool true)):=qh (by rw [hts];exact setF_new srcK _ (⟨tb,sq⟩:Src))
   have HOLD:Hid (∀ u,u ≠ .agg #[.int .i64 tb, .int .i64 sq]→setF srcK (l.take (i + 1)) u=setF srcK (l.take i) u):=qh fun u hu=>by rw [hts];exact setF_old (s:=(⟨tb,sq⟩:Src)) hu
   simp only at s0 s1
   unfold srcK at hkl
   simp only at hkl
   clear hc5 hs hts
   go_upto_region 5 with (fail)
   refine abs_world (P:=fun u=>Code.wp _ _ _ _ u) (R:=fun u=>Blk u wr.heap.size 51 #[.int .i64 tb, .int .i64 sq]∧Below wr.heap.size wr u) ⟨?_,?_⟩ ?_
   ·first|exact Blk.new _ _ _|exact Blk.new' rfl
   ·exact belA
   rintro U ⟨hD,hbU⟩
   have hDl:=hD.lt
   have hyU:=below_nextN hbr hbU hwz
   have HMU:=qh (HM.out.below hbU hMl)
   have v0:=hD.cell 0
   have v1:=hD.cell 1
   simp only [gE3] at v0 v1
   clear s0 s1 hD
   go_wp2_with (at_mapUpdate;refine wpList_storeH _ rfl _ _ _ _ rfl 51 4 srcK_keyed Tryz.underlying91 w.heap.size i _ rfl HMU.out (by unfold maxLen;omega) (.agg #[.int .i64 tb, .int .i64 sq]) _ rfl hkl (.bool true) rfl (setF srcK (l.take (i + 1))) HNEW.out HOLD.out ?_;intro w3 hM3 hg3)
   go_roundw
   case rel=>exact ⟨i + 1,by omega,by go_num,hM3,Below.grown hyU hg3 omA (fun q e=>by injection e with e;omega)⟩
   case measure=>exact meA
  ·have hlt':decide (i<l.length)=false:=by simpa using hlt
   obtain rfl:i=l.length:=by omega
   have HMW:Hid (MapH Tryz.prog 51 wr w.heap.size l.length (setF srcK l)):=qh (by have h:=HM.out;rwa [List.take_length] at h)
   go_wp2_with fail
   go_ret
   exact ⟨⟨_,rfl,Nat.le_refl _,HMW.out⟩,hbr⟩
open Go.RowKit Go
theorem redT_succ (v:List Vn) (s:List Src) (m:Nat) {l:List PRec} {k:Nat} (hk:k<l.length):redT v s m (l.take (k + 1))=redT v s m (l.take k)++(if stays s m l[k]=true then [redR v m l[k]] else []):=by
 unfold redT
 rw [List.take_succ_eq_append_getElem hk,List.filter_append,List.map_append]
 congr 1
 by_cases h:stays s m l[k]=true
 ·simp [h]
 ·simp [h]
structure RedTo (v:List Vn) (s:List Src) (rt l:List RTab) (m k:Nat):Prop where
 len:l.length=rt.length
 lo : ∀ i (hi:i<l.length) (hi':i<rt.length),i<m→pureT l[i]=redT v s i (pureT rt[i])
 at_ : ∀ i (hi:i<l.length) (hi':i<rt.length),i=m→pureT l[i]=redT v s i ((pureT rt[i]).take k)
 hi : ∀ i (hi:i<l.length),m<i→pureT l[i] = []
section
variable {v:List Vn} {s:List Src} {rt l:List RTab} {m k:Nat}
theorem RedTo.zero (v:List Vn) (s:List Src) (rt:List RTab):RedTo v s rt (List.replicate rt.length zeroT) 0 0 :=
 ⟨by simp,fun i _ _ h=>by omega,fun i hi hi' _=>by simp [pureT,zeroT,redT],fun i hi _=>by simp [pureT,zeroT]⟩
theorem RedTo.put (h:RedTo v s rt l m k) (hm:m<rt.length) (hm':m<l.length) (hk:k<rt[m].recs.length) (hst:stays s m (pureR rt[m].recs[k])=true) {r':Rcd} (hr:pureR r'=redR v m (pureR rt[m].recs[k])) (A3:Option Addr) (c3:Nat):RedTo v s rt (l.set m ⟨A3,c3,l[m].recs ++ [r']⟩) m (k + 1):=by
 refine ⟨by simp [h.len],fun i hi hi' hlt => ?_,fun i hi hi' e => ?_,fun i hi hlt => ?_⟩
 ·rw [List.getElem_set,if_neg omA]
  exact h.lo i (by simpa using hi) hi' hlt
 ·subst e
  rw [List.getElem_set_self]
  have h1:=h.at_ i hm' hi' rfl
  have h2:k<(pureT rt[i]).length:=by simpa [pureT] using hk
  have h3:(pureT rt[i])[k]=pureR rt[i].recs[k]:=by simp [pureT]
  rw [redT_succ v s i h2,← h1,h3,if_pos hst]
  simp [pureT,hr]
 ·rw [List.getElem_set,if_neg omA]
  exact h.hi i (by simpa using hi) hlt
theorem RedTo.skip (h:RedTo v s rt l m k) (hm:m<rt.length) (hk:k<rt[m].recs.length) (hst:stays s m (pureR rt[m].recs[k])=false):RedTo v s rt l m (k + 1):=by
 refine ⟨h.len,h.lo,fun i hi hi' e => ?_,h.hi⟩
 subst e
 have h1:=h.at_ i hi hi' rfl
 have h2:k<(pureT rt[i]).length:=by simpa [pureT] using hk
 have h3:(pureT rt[i])[k]=pureR rt[i].recs[k]:=by simp [pureT]
 rw [redT_succ v s i h2,← h1,h3,if_neg (by rw [hst];simp),List.append_nil]
theorem RedTo.next (h:RedTo v s rt l m k) (hm:m<rt.length) (hk:k=rt[m].recs.length):RedTo v s rt l (m + 1) 0:=by
 refine ⟨h.len,fun i hi hi' hlt => ?_,fun i hi hi' e => ?_,fun i hi hlt=>h.hi i hi omA⟩
 ·rcases Nat.lt_or_ge i m with h1|h1
  ·exact h.lo i hi hi' h1
  ·obtain rfl:i=m:=by omega
   rw [h.at_ i hi hi' rfl,hk,List.take_of_length_le (by simp [pureT])]
 ·rw [h.hi i hi omA]
  simp [redT]
theorem RedTo.done (h:RedTo v s rt l rt.length 0):l.map pureT=redE v s (rt.map pureT):=by
 apply List.ext_getElem (by simp [h.len,redE])
 intro i h1 h2
 have h3:i<(rt.map pureT).length:=by rw [redE_len] at h2;exact h2
 rw [List.getElem_map,redE_get v s _ h3,List.getElem_map]
 exact h.lo i (by simpa using h1) (by simpa using h3) (by simpa using h3)
theorem RedTo.reclen (h:RedTo v s rt l m k) (hm:m<rt.length) (hm':m<l.length):l[m].recs.length≤k:=by
 have h1:=h.at_ m hm' hm rfl
 have h2:=congrArg List.length h1
 have h3:(redT v s m ((pureT rt[m]).take k)).length≤k:=by
  unfold redT
  rw [List.length_map]
  refine Nat.le_trans (List.length_filter_le _ _) ?_
  rw [List.length_take]
  omega
 rw [← h2] at h3
 simpa [pureT] using h3
end
open Go.RowKit Go
open Go.Maps (Keyed)
def MapC (P:Program) (k:TypeId) (w:World) (b n c:Nat) (f:Value→Option Value):Prop :=
 ∃ D:DataW Value,w.ownsMap P k selfElem b n D∧Maps.size D=c ∧ ∀ x kl,Go.keyOf P k x=some kl →
  (f x=none→Maps.has D kl=false) ∧ ∀ y,f x=some y→Maps.has D kl=true ∧ ∀ z,D.atKey kl z = .held y
section
variable {P:Program} {k e t:TypeId} {w:World} {b n c:Nat} {f:Value→Option Value}
theorem MapC.made (w:World) (P:Program) (k:TypeId):MapC P k (w.alloc (.map #[] 0)) w.heap.size 0 0 (fun _=>none) :=
 ⟨.map [],World.ownsMap_made w P k _,rfl,fun x kl _=>⟨fun _=>rfl,fun y h=>by cases h⟩⟩
theorem MapC.lt (h:MapC P k w b n c f):b<w.heap.size:=by obtain ⟨D,h,_⟩:=h;exact h.lt
theorem MapC.le (h:MapC P k w b n c f):c≤n:=by obtain ⟨D,h,rfl,_⟩:=h;exact h.size_le
theorem MapC.mono (h:MapC P k w b n c f) {m:Nat} (hm:n≤m):MapC P k w b m c f:=by obtain ⟨D,h,h'⟩:=h;exact ⟨D,h.mono hm,h'⟩
theorem MapC.kept {w':World} {row:Option Nat} (h:MapC P k w b n c f) (hg:w.grownBy w' row) (hne:some b≠row):MapC P k w' b n c f:=by obtain ⟨D,h,h'⟩:=h;exact ⟨D,h.kept hg hne,h'⟩
theorem MapC.alloc (h:MapC P k w b n c f) (o:Obj):MapC P k (w.alloc o) b n c f:=by obtain ⟨D,h,h'⟩:=h;exact ⟨D,h.alloc o,h'⟩
theorem MapC.below {w':World} {B:Nat} (h:MapC P k w b n c f) (hb:Below B w w') (hB:b<B):MapC P k w' b n c f:=by
 obtain ⟨D,⟨es,clock,hs,F⟩,h'⟩:=h
 exact ⟨D,⟨es,clock,(hb.block b hB).trans hs,F⟩,h'⟩
theorem MapC.eqf (h:MapC P k w b n c f) {g:Value→Option Value} (hg : ∀ x kl,Go.keyOf P k x=some kl→g x=f x):MapC P k w b n c g:=by
 obtain ⟨D,h,hs,h'⟩:=h
 exact ⟨D,h,hs,fun x kl hx=>by rw [hg x kl hx];exact h' x kl hx⟩
theorem MapC.len (h:MapC P k w b n c f) (ht:P.underlying t=some (.map k e)) (ty:TypeId):(Builtin.len_ #[t] ty #[.map (some b)]).run P w = .ok (.int .i64 c) w:=by
 obtain ⟨D,h,rfl,_⟩:=h
 exact h.len ht ty
theorem MapC.look_ok (h:MapC P k w b n c f) (K:Keyed P k) (ht:P.underlying t=some (.map k e)) {z:Value} (hz:(zeroValue e).run P w = .ok z w) {x:Value} {kl:Lit} (hx:Go.keyOf P k x=some kl) :
 (Instr.lookup t (.map (some b)) x true).run P w = .ok (.tuple #[(f x).getD z, .bool (f x).isSome]) w:=by
 obtain ⟨D,h,_,h'⟩:=h
 obtain ⟨v,ps,hrun,hv⟩:=h.look_ok K ht hz (zd := .held z) (zp := []) rfl hx
 rw [hrun]
 cases hf:f x with
 | none =>
   have hn:=(h' x kl hx).1 hf
   rw [Maps.atKey_of_not_has hn] at hv
   rw [self_inj hv,hn]
   rfl
 | some y =>
   obtain ⟨hh,hat⟩:=(h' x kl hx).2 y hf
   rw [hat] at hv
   rw [self_inj hv,hh]
   rfl
theorem MapC.store (h:MapC P k w b n c f) (K:Keyed P k) (ht:P.underlying t=some (.map k e)) (hn:n<maxLen) {x y:Value} {kl:Lit} (hx:Go.keyOf P k x=some kl) :
 ∃ w',(Instr.mapUpdate t (.map (some b)) x y).run P w = .ok () w'∧(∀ f',f' x=some y→(∀ u,u≠x→f' u=f u)→MapC P k w' b (n + 1) (if (f x).isSome=true then c else c + 1) f')∧w.grownBy w' (some b):=by
 obtain ⟨D,h,hsz,h'⟩:=h
 obtain ⟨w',hrun,ho,hg⟩:=h.update K ht hn hx (val:=y) (d := .held y) (ps := []) rfl
 have hD:=h.isMap
 have hkl:=K.key hx
 have hhas:Maps.has D kl=(f x).isSome:=by
  cases hf:f x with
  | none=>rw [(h' x kl hx).1 hf];rfl
  | some z=>rw [((h' x kl hx).2 z hf).1];rfl
 refine ⟨w',hrun,fun f' h1 h2=>⟨_,ho,by rw [Maps.size_put (h.tidy K),hhas,hsz],fun u ul hu => ?_⟩,hg⟩
 by_cases hux:u=x
 ·subst hux
  rw [hx] at hu
  injection hu with hu
  subst hu
  rw [h1]
  refine ⟨fun h=>(Option.some_ne_none _ h).elim,fun y' hy' => ?_⟩
  injection hy' with hy'
  subst hy'
  exact ⟨Maps.has_put_same hD hkl _,fun z=>Maps.atKey_put_same hD hkl _ z⟩
 ·have hne:ul≠kl:=fun e=>hux (K.inj hu (by rw [e];exact hx))
  rw [h2 u hux]
  refine ⟨fun hf=>by rw [Maps.has_put_other hne];exact (h' u ul hu).1 hf,fun y' hf => ?_⟩
  obtain ⟨hh,hat⟩:=(h' u ul hu).2 y' hf
  exact ⟨by rw [Maps.has_put_other hne];exact hh,fun z=>by rw [Maps.atKey_put_other hne];exact hat z⟩
theorem MapC.drop (h:MapC P k w b n c f) (K:Keyed P k) (ht:P.underlying t=some (.map k e)) {x:Value} {kl:Lit} (hx:Go.keyOf P k x=some kl) (ty:TypeId) :
 ∃ w',(Builtin.delete_ #[t,k] ty #[.map (some b),x]).run P w = .ok (.tuple #[]) w'∧(∀ f',f' x=none→(∀ u,u≠x→f' u=f u)→MapC P k w' b n (if (f x).isSome=true then c - 1 else c) f')∧w.grownBy w' (some b):=by
 obtain ⟨D,h,hsz,h'⟩:=h
 obtain ⟨w',hrun,ho,hg⟩:=h.drop K ht hx ty
 have hhas:Maps.has D kl=(f x).isSome:=by
  cases hf:f x with
  | none=>rw [(h' x kl hx).1 hf];rfl
  | some z=>rw [((h' x kl hx).2 z hf).1];rfl
 have hs:Maps.size (D.del kl)=if (f x).isSome=true then c - 1 else c:=by
  have h1:=Maps.size_del (h.tidy K) (k:=kl)
  rw [hhas,hsz] at h1
  split at h1 <;> rename_i h2
  ·rw [if_pos h2];omega
  ·rw [if_neg h2];omega
 refine ⟨w',hrun,fun f' h1 h2=>⟨_,ho,hs,fun u ul hu => ?_⟩,hg.grown⟩
 by_cases hux:u=x
 ·subst hux
  rw [hx] at hu
  injection hu with hu
  subst hu
  rw [h1]
  exact ⟨fun _=>Maps.has_del_same,fun y h=>by cases h⟩
 ·have hne:ul≠kl:=fun e=>hux (K.inj hu (by rw [e];exact hx))
  rw [h2 u hux]
  refine ⟨fun hf=>by rw [Maps.has_del_other hne];exact (h' u ul hu).1 hf,fun y' hf => ?_⟩
  obtain ⟨hh,hat⟩:=(h' u ul hu).2 y' hf
  exact ⟨by rw [Maps.has_del_other hne];exact hh,fun z=>by rw [Maps.atKey_del_other hne];exact hat z⟩
end
section
variable {P:Program} (w:World) {ops:Array Oper} {rest:List Oper} {o:Oper} {a:Act} {Q:Exit→Act→World→Prop}
theorem wpList_storeC (hg:o.guard=none) (m x v:Operand) (t:TypeId) (hop:o.op=Op.mapUpdate t m x v) (k e:TypeId) (K:Keyed P k) (ht:P.underlying t=some (.map k e))
 (b n c:Nat) (f:Value→Option Value) (hm:a.eval m = .map (some b)) (hown:MapC P k w b n c f) (hn:n<maxLen) (key:Value) (kl:Lit) (hx:a.eval x=key) (hkey:Go.keyOf P k key=some kl) (y:Value) (hv:a.eval v=y)
 (f':Value→Option Value) (h1:f' key=some y) (h2 : ∀ u,u≠key→f' u=f u)
 (hK : ∀ w',MapC P k w' b (n + 1) (if (f key).isSome=true then c else c + 1) f'→w.grownBy w' (some b)→wpList P ops Q rest (a.put o.dst undef) w'):wpList P ops Q (o::rest) a w:=by
 refine wpList_plain hg fun K' hK' => ?_
 obtain ⟨w',hrun,r1,r2⟩:=hown.store K ht hn hkey (y:=y)
 unfold Oper.wp
 simp [execOp,hop,hm,hx,hv,hrun,Result.andThen]
 exact hK' _ _ (hK w' (r1 f' h1 h2) r2)
theorem wpList_lookOkC (hg:o.guard=none) (m x:Operand) (t:TypeId) (hop:o.op=Op.lookup t m x true) (k e:TypeId) (K:Keyed P k) (ht:P.underlying t=some (.map k e)) (z:Value) (hz : ∀ u,(zeroValue e).run P u = .ok z u)
 (b n c:Nat) (f:Value→Option Value) (hm:a.eval m = .map (some b)) (hown:MapC P k w b n c f) (key:Value) (kl:Lit) (hx:a.eval x=key) (hkey:Go.keyOf P k key=some kl)
 (r:Value) (d:Bool) (hr:(f key).getD z=r) (hd:(f key).isSome=d) (hK:wpList P ops Q rest (a.put o.dst (.tuple #[r, .bool d])) w):wpList P ops Q (o::rest) a w:=by
 subst hr hd
 refine wpList_plain hg fun K' hK' => ?_
 have hrun:=hown.look_ok K ht (hz w) hkey
 unfold Oper.wp
 simp [execOp,hop,hm,hx,hrun,Result.andThen]
 exact hK' _ _ hK
theorem wpList_lenC (hg:o.guard=none) (m:Operand) (t:TypeId) (hop:o.op=Op.call { callee:=Callee.builtin Builtin.len,args := #[m],argTypes := #[t] })
 (k e:TypeId) (ht:P.underlying t=some (.map k e)) (b n c:Nat) (f:Value→Option Value) (hm:a.eval m = .map (some b)) (hown:MapC P k w b n c f)
 (hK:wpList P ops Q rest (a.put o.dst (.int .i64 c)) w):wpList P ops Q (o::rest) a w:=by
 refine wpList_plain hg fun K' hK' => ?_
 unfold Oper.wp
 simp [execOp,hop,resolve,invoke,builtin,hm,hown.len ht o.type,Result.andThen]
 exact hK' _ _ hK
end
end Go.Proofs.YtjhnpnhpmdkpcaaGreat
