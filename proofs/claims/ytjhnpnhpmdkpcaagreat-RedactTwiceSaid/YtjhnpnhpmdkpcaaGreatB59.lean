/-
  Contracts and plain laws of this seat, part 59: RedF, FolP, FolM.
-/
import Derived.Test.YtjhnpnhpmdkpcaaGreatB31
import Derived.Test.YtjhnpnhpmdkpcaaGreatB2
import Derived.Test.YtjhnpnhpmdkpcaaGreatB7
import Derived.Test.YtjhnpnhpmdkpcaaGreatB56
set_option linter.unusedVariables false
set_option linter.unusedSimpArgs false
set_option maxRecDepth 100000
set_option maxHeartbeats 16000000
namespace Go.Proofs.YtjhnpnhpmdkpcaaGreat
open Go.RowKit Go
theorem clone_valsN (A:Option Addr) (c n:Nat) (l:List Val) (w:World) (hl:SliceIs w w.heap.size Val.cells 3 A l) (hln:l.length=n) (hn:n ≤ 1000000) :
 Calls Tryz.prog 76 #[.slice A n c] w fun e w' =>
  (∃ A' c',e = .returned (.slice A' n c')∧Owns w' w.heap.size 53 Val.cells 3 (.slice A' n c') l)∧Below w.heap.size w w':=by
 cases A with
 | some a =>
   subst hln
   obtain ⟨i0,hi0,hz0,hz1,hz2⟩:=info_parts infoVal
   have hnil:(binOp .eql 46 (.slice (some a) l.length c) (.slice none 0 0)).run Tryz.prog w = .ok (.bool false) w:=Lib.run_eql_slice_nil w 46 53 (some a) l.length c 0 0 Tryz.underlying46
   go_enter Tryz.func76,Tryz.ntmps76
   go_wp2_with ((at_builtin;refine wpList_append_list _ rfl (.tmp 5) (.tmp 6) 46 rfl 53 i0 _ Val.cells 3 32 Tryz.underlying46 hi0 hz0 hz1 hz2 rfl omA val_len val_one w.heap.size (.slice (some ⟨w.heap.size,0,none⟩) 0 0) [] rfl (Owns.empty (Blk.new' rfl) nlr) _ _ _ l rfl rfl (hl.next belA) smA mxA spA ?_;intro v' w1 hown' hg' hat';obtain ⟨A',c',hv',_,_⟩:=hown'.form;have HOWN':=qh hown';clear hown';have hbel:Below w.heap.size w w1:=Below.grown belA hg' spA (own_row nlr)))
   go_ret
   have h:=HOWN'.out
   simp only [List.nil_append] at hv' h
   subst hv'
   exact ⟨⟨A',c',rfl,h⟩,hbel⟩
 | none =>
   have h0:l = []:=by
    rcases Nat.eq_zero_or_pos l.length with h|h
    ·exact List.eq_nil_of_length_eq_zero h
    ·obtain ⟨b',o',he,_⟩:=hl h
     cases he
   subst h0
   subst hln
   have hnil:(binOp .eql 46 (.slice none 0 c) (.slice none 0 0)).run Tryz.prog w = .ok (.bool true) w:=Lib.run_eql_slice_nil w 46 53 none 0 c 0 0 Tryz.underlying46
   go_enter Tryz.func76,Tryz.ntmps76
   go_wp2_with fail
   go_ret
   exact ⟨⟨none,0,rfl,Owns.nil⟩,Below.refl _ _⟩
theorem Owns.put12 {α : Type} {enc : α → List Value} {s base g:Nat} {w:World} {e t:TypeId} {v:Value} {m:List α} {cs:Array Value} (ho:Owns w base e enc s v m) (h:Blk w g t cs) (he:t≠e) {i0 i1 i2 i3 i4 i5 i6 i7 i8 i9 i10 i11:Nat} {x0 x1 x2 x3 x4 x5 x6 x7 x8 x9 x10 x11:Value} :
 Owns ((((((((((((w.setCell ⟨g,i0,none⟩ x0).setCell ⟨g,i1,none⟩ x1).setCell ⟨g,i2,none⟩ x2).setCell ⟨g,i3,none⟩ x3).setCell ⟨g,i4,none⟩ x4).setCell ⟨g,i5,none⟩ x5).setCell ⟨g,i6,none⟩ x6).setCell ⟨g,i7,none⟩ x7).setCell ⟨g,i8,none⟩ x8).setCell ⟨g,i9,none⟩ x9).setCell ⟨g,i10,none⟩ x10).setCell ⟨g,i11,none⟩ x11) base e enc s v m:=by
 have hne : ∀ q,v.ownBlock=some q→q≠g:=fun q hq e1=>by
  obtain ⟨cs',hc⟩:=ho.typ hq
  rw [e1] at hc
  exact cells_ne h he cs' hc
 repeat (refine Owns.far ?_ hne _)
 exact ho
theorem red_cloned (kd sq dy tb:Int) (A0:Option Addr) (cp:Nat) (row:List Val) (key:Val) (cl:Int) (vl:Val) (w:World) (hr:SliceIs w w.heap.size Val.cells 3 A0 row) (hl:row.length ≤ 1000000) :
 Calls Tryz.prog 51 #[.agg #[.int .i64 kd, .int .i64 sq, .int .i64 dy, .int .i64 tb, .slice A0 row.length cp, .int .i64 key.kind, .int .i64 key.num, .string key.text, .int .i64 cl, .int .i64 vl.kind, .int .i64 vl.num, .string vl.text]] w fun e w' =>
  (∃ A' c',e = .returned (.agg #[.int .i64 kd, .int .i64 sq, .int .i64 dy, .int .i64 tb, .slice A' row.length c', .int .i64 key.kind, .int .i64 key.num, .string key.text, .int .i64 cl, .int .i64 vl.kind, .int .i64 vl.num, .string vl.text])∧Owns w' w.heap.size 53 Val.cells 3 (.slice A' row.length c') row)∧Below w.heap.size w w':=by
 have HR:=qh hr
 clear hr
 go_enter Tryz.func51,Tryz.ntmps51
 go_upto_region 1 with (fail)
 refine abs_world (P:=fun u=>Code.wp _ _ _ _ u) (R:=fun u=>Blk u w.heap.size 79 #[.int .i64 kd, .int .i64 sq, .int .i64 dy, .int .i64 tb, .slice A0 row.length cp, .int .i64 key.kind, .int .i64 key.num, .string key.text, .int .i64 cl, .int .i64 vl.kind, .int .i64 vl.num, .string vl.text]∧Blk u (w.heap.size + 1) 79 #[.int .i64 0, .int .i64 0, .int .i64 0, .int .i64 0, .slice none 0 0, .int .i64 0, .int .i64 0, .string ⟨#[]⟩, .int .i64 0, .int .i64 0, .int .i64 0, .string ⟨#[]⟩]∧Below w.heap.size w u) ⟨?_,?_,?_⟩ ?_
 ·exact (Blk.new _ _ _).alloc _
 ·exact Blk.new' spA
 ·exact belA
 rintro W ⟨hX,hZ,hbW⟩
 have hxl:=hX.lt
 have hzl:=hZ.lt
 have HX:=qh hX
 have HZ:=qh hZ
 have c4:=hX.cell 4
 simp only [gE3] at c4
 clear hX hZ
 go_upto_region 2 with (focus (
  (go_at_call 76;(with_reducible refine (clone_valsN A0 cp row.length row _ (HR.out.next hbW) rfl hl).mono ?_))
  rintro e w5 ⟨⟨A',c',rfl,hown'⟩,hb5⟩
  have HX5:=qh (HX.out.below hb5 hxl)
  have HZ5:=qh (HZ.out.below hb5 hzl)
  have HOWN':=qh (hown'.mono hbW.size)
  have hx5:=below_nextN hbW hb5 hbW.size
  clear hown'
  have f4:=HX5.out.frozen 4
  replace c4:=HX5.out.cell 4
  simp only [gE3] at c4))
 obtain ⟨U,hU⟩ : ∃ U,w5.setCell ⟨w.heap.size,4,none⟩ (.slice A' row.length c')=U:=⟨_,rfl⟩
 rw [hU]
 have HO:Hid (Owns U w.heap.size 53 Val.cells 3 (.slice A' row.length c') row):=qh (by rw [← hU];exact HOWN'.out.otype HX5.out (by decide) _)
 have hbU:Below w.heap.size w U:=by rw [← hU];exact hx5.setCell spA _
 have hX:Blk U w.heap.size 79 (Chg.cells ⟨kd,sq,dy,tb,A',c',row,key,cl,vl⟩).toArray:=by
  rw [← hU]
  have h:=HX5.out.set_ 4 (.slice A' row.length c')
  simpa [Chg.cells] using h
 have hZ:Blk U (w.heap.size + 1) 79 #[.int .i64 0, .int .i64 0, .int .i64 0, .int .i64 0, .slice none 0 0, .int .i64 0, .int .i64 0, .string ⟨#[]⟩, .int .i64 0, .int .i64 0, .int .i64 0, .string ⟨#[]⟩]:=by
  rw [← hU]
  exact HZ5.out.far spA _
 clear hU
 obtain ⟨⟨q0,q1,q2,q3⟩,q4,⟨q5,q6,q7⟩,q8,q9,q10,q11⟩:=Chg.blkE hX
 simp only at q0 q1 q2 q3 q4 q5 q6 q7 q8 q9 q10 q11
 have hzl2:=hZ.lt
 have hfz:=fun j=>hZ.frozen j
 have HZU:=qh hZ
 obtain ⟨⟨z0,z1,z2,z3⟩,z4,⟨z5,z6,z7⟩,z8,z9,z10,z11⟩:=Chg.blkE (x:=⟨0,0,0,0,none,0,[],⟨0,0,⟨#[]⟩⟩,0,⟨0,0,⟨#[]⟩⟩⟩) hZ
 simp only [List.length_nil] at z0 z1 z2 z3 z4 z5 z6 z7 z8 z9 z10 z11
 clear hX hZ
 go_wp2_with fail
 refine bodyPost_ret (v := .agg #[.int .i64 kd, .int .i64 sq, .int .i64 dy, .int .i64 tb, .slice A' row.length c', .int .i64 key.kind, .int .i64 key.num, .string key.text, .int .i64 cl, .int .i64 vl.kind, .int .i64 vl.num, .string vl.text]) (by simp [results,Tryz.results51,go_sem,z0,z1,z2,z3,z4,z5,z6,z7,z8,z9,z10,z11]) rfl ⟨⟨A',c',rfl,HO.out.put12 HZU.out (by decide)⟩,?_⟩
 repeat (refine Below.setCell ?_ spA _)
 exact hbU
open Go.RowKit Go
abbrev Alive:=(Val→Option Int) × Nat
def Alive0:Alive:=(fun _=>none,0)
abbrev Eff:=Chg × Src × Int
def putF (f:Val→Option Int) (k:Val) (y:Option Int):Val→Option Int:=fun x=>if x=k then y else f x
def folS (a:Alive) (x:Chg):Alive × Option Eff:=match a.1 (keyOf x) with
 | some s=>if x.kind = 1 then ((putF a.1 (keyOf x) (some x.seq),a.2),some (x,⟨x.table,x.seq⟩,s)) else if x.kind = 3 then ((putF a.1 (keyOf x) none,a.2 - 1),some (x,⟨x.table,s⟩,0)) else (a,some (x,⟨x.table,s⟩,0))
 | none=>if x.kind = 1∧a.2 < 64 then ((putF a.1 (keyOf x) (some x.seq),a.2 + 1),some (x,⟨x.table,x.seq⟩,0)) else (a,none)
def aliveP (al:List Alive) (k:Int):Alive:=(al[k.toNat]?).getD Alive0
def folE (al:List Alive) (x:Chg):List Alive × List Eff:=(al.set x.table.toNat (folS (aliveP al x.table) x).1,(folS (aliveP al x.table) x).2.toList)
def folA:List Alive→List Chg→List Alive
 | al,[]=>al
 | al,x::l=>folA (folE al x).1 l
def folL:List Alive→List Chg→List Eff
 | _,[] => []
 | al,x::l=>(folE al x).2++folL (folE al x).1 l
theorem folA_snoc (al:List Alive) (l:List Chg) (x:Chg):folA al (l ++ [x])=(folE (folA al l) x).1:=by
 induction l generalizing al with
 | nil=>rfl
 | cons y l ih=>exact ih _
theorem folL_snoc (al:List Alive) (l:List Chg) (x:Chg):folL al (l ++ [x])=folL al l++(folE (folA al l) x).2:=by
 induction l generalizing al with
 | nil=>simp [folL,folA]
 | cons y l ih =>
   show (folE al y).2++folL (folE al y).1 (l ++ [x])=_
   rw [ih,← List.append_assoc]
   rfl
theorem folA_len (al:List Alive) (l:List Chg):(folA al l).length=al.length:=by
 induction l generalizing al with
 | nil=>rfl
 | cons y l ih =>
   show (folA (folE al y).1 l).length=_
   rw [ih]
   simp [folE]
theorem aliveP_get {al:List Alive} {k:Nat} (h:k<al.length):aliveP al (k:Int)=al[k]:=by
 unfold aliveP
 rw [Int.toNat_natCast,List.getElem?_eq_getElem h]
 rfl
def mkV (x:Val):Value := .agg #[.int .i64 x.kind, .int .i64 x.num, .string x.text]
theorem mkV_inj {a b:Val} (h:mkV a=mkV b):a=b:=by
 obtain ⟨a1,a2,a3⟩:=a
 obtain ⟨b1,b2,b3⟩:=b
 unfold mkV at h
 injection h with h
 simp only [Array.mk.injEq,List.cons.injEq,Value.int.injEq,Value.string.injEq,true_and,and_true] at h
 rw [h.1,h.2.1,h.2.2]
open Classical in
noncomputable def mapF (f:Val→Option Int):Value→Option Value:=fun V=>if h : ∃ x,mkV x=V then (f h.choose).map fun s => .int .i64 s else none
theorem mapF_get (f:Val→Option Int) (x:Val):mapF f (mkV x)=(f x).map fun s => .int .i64 s:=by
 have h : ∃ y,mkV y=mkV x:=⟨x,rfl⟩
 unfold mapF
 rw [dif_pos h,mkV_inj h.choose_spec]
theorem mapF_put (f:Val→Option Int) (x:Val) (y:Option Int) {u:Value} (hu:u≠mkV x):mapF (putF f x y) u=mapF f u:=by
 unfold mapF
 by_cases h : ∃ z,mkV z=u
 ·rw [dif_pos h,dif_pos h]
  have hne:h.choose≠x:=fun e=>hu (by rw [← h.choose_spec,e])
  unfold putF
  rw [if_neg hne]
 ·rw [dif_neg h,dif_neg h]
theorem putF_same (f:Val→Option Int) (x:Val) (y:Option Int):putF f x y x=y:=if_pos rfl
theorem val_keyed:Maps.Keyed Tryz.prog 53:=Maps.Keyed.of_law (deep_law_laid (m := 5) krA (by decide) (of_decide_eq_true krA) krA krA)
theorem int64_lits {d:Nat} {a:Int} (ha : -9223372036854775808≤a∧a ≤ 9223372036854775807):Tryz.prog.keyLits (d + 1) 2 [.int .i64 a]=some [.int .i64 a]:=by
 have hw:(Lit.int .i64 a).wf=true:=by
  have h1:IntKind.i64.min≤a:=Int.le_trans (by decide) ha.1
  simp [Lit.wf,h1];omega
 unfold Program.keyLits
 rw [Tryz.underlying2]
 simp [hw]
theorem str_lits {d:Nat} {s:ByteArray} (hs:s.size ≤ 1000000):Tryz.prog.keyLits (d + 1) 9 [.string s]=some [.string s.data.toList]:=by
 unfold Program.keyLits
 rw [Tryz.underlying9]
 simp [Lit.wf]
 unfold maxLen
 omega
theorem val_key {a b:Int} {s:ByteArray} (hs:s.size ≤ 1000000) (ha : -9223372036854775808≤a∧a ≤ 9223372036854775807) (hb : -9223372036854775808≤b∧b ≤ 9223372036854775807) : ∃ kl,Go.keyOf Tryz.prog 53 (.agg #[.int .i64 a, .int .i64 b, .string s])=some kl:=by
 have hsz:Tryz.prog.cellsOf 53 = 3:=by kernel_rfl
 have hs3:Tryz.prog.cellsOf 3 = 1:=by kernel_rfl
 have hs4:Tryz.prog.cellsOf 9 = 1:=by kernel_rfl
 have hs5:Tryz.prog.cellsOf 2 = 1:=by kernel_rfl
 have hkt:Tryz.prog.keyType 53=true:=by kernel_rfl
 obtain ⟨n,hn⟩ : ∃ n,Tryz.prog.types.size=n + 1:=⟨Tryz.prog.types.size - 1,by kernel_rfl⟩
 have hf:(Value.agg #[.int .i64 a, .int .i64 b, .string s]).formed Tryz.prog 53=true:=by
  unfold Value.formed
  rw [Tryz.underlying53,hsz]
  rfl
 have hl:Tryz.prog.keyLits (Tryz.prog.types.size + 1) 53 [.int .i64 a, .int .i64 b, .string s]=some [.int .i64 a, .int .i64 b, .string s.data.toList]:=by
  rw [hn]
  unfold Program.keyLits
  rw [Tryz.underlying53]
  simp [hsz,hs3,hs4,hs5,int_litsV ha,int64_lits hb,str_lits hs]
 refine ⟨.string (keyBytes [.int .i64 a, .int .i64 b, .string s.data.toList]),?_⟩
 unfold Go.keyOf
 rw [Tryz.underlying53,hkt,hf]
 show Option.map (fun ls=>Lit.string (keyBytes ls)) (Tryz.prog.keyLits (Tryz.prog.types.size + 1) 53 [.int .i64 a, .int .i64 b, .string s])=_
 rw [hl]
 rfl
open Go.RowKit Go
section
variable {P:Program} {k:TypeId} {w w':World} {b n c:Nat} {f:Value→Option Value}
theorem MapC.same (h:MapC P k w b n c f) (hs:w'.heap[b]? = w.heap[b]?):MapC P k w' b n c f:=by
 obtain ⟨D,⟨es,clock,he,F⟩,h'⟩:=h
 exact ⟨D,⟨es,clock,hs.trans he,F⟩,h'⟩
theorem MapC.isMap (h:MapC P k w b n c f) : ∃ es clock,w.heap[b]? = some (.map es clock):=by
 obtain ⟨D,⟨es,clock,he,F⟩,_⟩:=h
 exact ⟨es,clock,he⟩
theorem MapC.neCells (h:MapC P k w b n c f) {g:Nat} {cs:Array Value} {t:TypeId} {r:Nat × Nat} (hg:w.heap[g]? = some (.cells cs t r)):b≠g:=fun e=>by
 obtain ⟨es,clock,he⟩:=h.isMap
 rw [e,hg] at he
 injection he with he
 cases he
end
structure AlvM (w:World) (B q:Nat) (bl:List Nat) (al:List Alive) (N:Nat):Prop where
 sl:Blk w q 134 (bl.map fun b=>Value.map (some b)).toArray
 up:B≤q
 len:al.length=bl.length
 maps : ∀ i (h:i<bl.length) (h':i<al.length),MapC Tryz.prog 53 w bl[i] N al[i].2 (mapF al[i].1)
 low : ∀ b∈bl,B≤b
 apart : ∀ i j (h:i<bl.length) (h':j<bl.length),i≠j→bl[i]≠bl[j]
section
variable {w w':World} {B q N:Nat} {bl:List Nat} {al:List Alive}
theorem AlvM.same (h:AlvM w B q bl al N) (hs : ∀ b,b<w.heap.size→(b=q∨b∈bl)→w'.heap[b]? = w.heap[b]?):AlvM w' B q bl al N :=
 ⟨(hs q h.sl.lt (.inl rfl)).trans h.sl,h.up,h.len,fun i hi hi'=>(h.maps i hi hi').same (hs _ (h.maps i hi hi').lt (.inr (lgm hi))),h.low,h.apart⟩
theorem AlvM.below (h:AlvM w B q bl al N) (hb:Below w.heap.size w w'):AlvM w' B q bl al N:=h.same fun b hl _=>hb.block b hl
theorem AlvM.visit {base pk:Nat} {v:Value} {kl:List Chg} (h:AlvM w B q bl al N) (hB:pk<B) (ho:Owns w base 79 Chg.cells 12 v kl) (hf : ∀ b,b<w.heap.size→b≠pk→some b≠v.ownBlock→w'.heap[b]? = w.heap[b]?):AlvM w' B q bl al N:=by
 refine h.same fun b hl hb=>hf b hl ?_ fun e => ?_
 ·rcases hb with rfl|hb
  ·have:=h.up;omega
  ·have:=h.low b hb;omega
 ·obtain ⟨cs,hc⟩:=ho.typ e.symm
  rcases hb with rfl|hb
  ·exact cells_ne h.sl (by decide) cs hc
  ·obtain ⟨i,hi,rfl⟩:=List.getElem_of_mem hb
   exact (h.maps i hi (by rw [h.len];exact hi)).neCells hc rfl
theorem AlvM.put {k N':Nat} {a:Alive} (h:AlvM w B q bl al N) (hk:k<bl.length) (hN:N≤N') (hg:w.grownBy w' (some bl[k])) (hm:MapC Tryz.prog 53 w' bl[k] N' a.2 (mapF a.1)):AlvM w' B q bl (al.set k a) N':=by
 have hq:q≠bl[k]:=fun e=>(h.maps k hk (by rw [h.len];exact hk)).neCells h.sl e.symm
 refine ⟨h.sl.grown hg fun e=>hq (by injection e),h.up,by simp [h.len],fun i hi hi' => ?_,h.low,h.apart⟩
 by_cases hik:i=k
 ·subst hik
  rw [List.getElem_set_self]
  exact hm
 ·rw [List.getElem_set_ne (fun e=>hik e.symm)]
  exact ((h.maps i hi (by simpa using hi')).mono hN).kept hg fun e=>h.apart i k hi hk hik (by injection e)
theorem AlvM.mono {N':Nat} (h:AlvM w B q bl al N) (hN:N≤N'):AlvM w B q bl al N':=⟨h.sl,h.up,h.len,fun i hi hi'=>(h.maps i hi hi').mono hN,h.low,h.apart⟩
theorem AlvM.cell (h:AlvM w B q bl al N) {k:Nat} (hk:k<bl.length):w.cell? ⟨q,k,none⟩=some (.map (some bl[k])):=by
 rw [h.sl.cell k]
 simp [hk]
end
def unC (x:Chg):Chg:=⟨x.kind,x.seq,x.day,x.table,none,0,x.row,x.key,x.column,x.val⟩
structure KeptL (w:World) (pk:Nat) (KA:Option Addr) (kc:Nat) (kl:List Chg):Prop where
 var:Blk w pk 36 #[.slice KA kl.length kc]
 own:Owns w (pk + 1) 79 Chg.cells 12 (.slice KA kl.length kc) kl
 rows : ∀ x∈kl,Owns w (pk + 1) 53 Val.cells 3 (.slice x.A x.row.length x.cap) x.row
 len : ∀ x∈kl,x.row.length ≤ 8
def VisFr (w w':World) (pk:Nat) (KA:Option Addr) (n kc:Nat):Prop:=Below pk w w' ∧ ∀ b,b<w.heap.size→b≠pk→some b≠(Value.slice KA n kc).ownBlock→w'.heap[b]? = w.heap[b]?
section
variable {w w':World} {pk:Nat} {KA:Option Addr} {kc:Nat} {kl:List Chg}
theorem KeptL.below (h:KeptL w pk KA kc kl) (hb:Below w.heap.size w w'):KeptL w' pk KA kc kl:=⟨h.var.below hb h.var.lt,h.own.below hb nlr,fun x hx=>(h.rows x hx).below hb nlr,h.len⟩
theorem KeptL.map {b:Nat} (h:KeptL w pk KA kc kl) (hg:w.grownBy w' (some b)) (hm : ∃ es clock,w.heap[b]? = some (.map es clock)):KeptL w' pk KA kc kl:=by
 obtain ⟨es,clock,hm⟩:=hm
 have hne : ∀ g cs t,w.heap[g]? = some (.cells cs t (0,0))→some g≠some b:=fun g cs t hg e=>by
  injection e with e
  rw [e,hm] at hg
  injection hg with hg
  cases hg
 refine ⟨h.var.grown hg (hne _ _ _ h.var),?_,fun x hx => ?_,h.len⟩
 ·exact h.own.kept hg fun g hg'=>by
   obtain ⟨cs,hc⟩:=h.own.typ hg'
   exact hne _ _ _ hc
 ·exact (h.rows x hx).kept hg fun g hg'=>by
   obtain ⟨cs,hc⟩:=(h.rows x hx).typ hg'
   exact hne _ _ _ hc
theorem KeptL.app {A':Option Addr} {c':Nat} {x:Chg} (h:KeptL w pk KA kc kl) (hg:w.grownBy w' (Value.slice KA kl.length kc).ownBlock) (ho:Owns w' (pk + 1) 79 Chg.cells 12 (.slice A' (kl ++ [x]).length c') (kl ++ [x]))
 (hx:Owns w (pk + 1) 53 Val.cells 3 (.slice x.A x.row.length x.cap) x.row) (hl:x.row.length ≤ 8):KeptL (w'.setCell ⟨pk,0,none⟩ (.slice A' (kl ++ [x]).length c')) pk A' c' (kl ++ [x]):=by
 have hv:Blk w' pk 36 #[.slice KA kl.length kc]:=h.var.grown hg fun e=>by
  have:=h.own.row pk e.symm
  omega
 refine ⟨by have:=hv.set_ 0 (.slice A' (kl ++ [x]).length c');simpa using this,ho.otype hv (by decide) _,fun y hy => ?_,fun y hy => ?_⟩
 ·rcases List.mem_append.1 hy with h1|h1
  ·exact ((h.rows y h1).kept hg ((h.rows y h1).neType h.own (by decide))).otype hv (by decide) _
  ·rw [List.mem_singleton.1 h1]
   exact (hx.kept hg (hx.neType h.own (by decide))).otype hv (by decide) _
 ·rcases List.mem_append.1 hy with h1|h1
  ·exact h.len y h1
  ·rw [List.mem_singleton.1 h1]
   exact hl
theorem KeptL.lt (h:KeptL w pk KA kc kl):pk<w.heap.size:=h.var.lt
theorem VisFr.of {n:Nat} (hb:Below w.heap.size w w') (hp:pk<w.heap.size):VisFr w w' pk KA n kc:=⟨hb.mono (Nat.le_of_lt hp),fun b hl _ _=>hb.block b hl⟩
theorem KeptL.frame {u:World} (h:KeptL w pk KA kc kl) (hb:Below w.heap.size w u) (hg:u.grownBy w' (Value.slice KA kl.length kc).ownBlock) (v:Value):VisFr w (w'.setCell ⟨pk,0,none⟩ v) pk KA kl.length kc:=by
 have hp:=h.lt
 refine ⟨((hb.mono (Nat.le_of_lt hp)).grown hg (by have:=hb.size;omega) fun k hk=>by have:=h.own.row k hk;omega).setCell nlr v,fun b hl h1 h2 => ?_⟩
 rw [Below.heap_setCell _ _ _ _ h1,hg.block b (by have:=hb.size;omega) h2,hb.block b hl]
end
structure FolOk (n:Nat) (x:Chg):Prop where
 tab : ∃ k:Nat,x.table=(k:Int)∧k<n
 row:x.kind = 1 → 0<x.row.length
 seq : 0≤x.seq∧x.seq ≤ 1073741824
 key:valB (keyOf x)=true
 len:x.row.length ≤ 8
section
variable {al:List Alive} {x:Chg} {k:Nat}
theorem folE_ins (hk:k<al.length) (ht:x.table=(k:Int)) (h1:x.kind = 1) (hr:(al[k].1 (keyOf x)).isSome=true∨al[k].2 < 64):folE al x=(al.set k (putF al[k].1 (keyOf x) (some x.seq),if (al[k].1 (keyOf x)).isSome=true then al[k].2 else al[k].2 + 1),[(x,⟨x.table,x.seq⟩,(al[k].1 (keyOf x)).getD 0)]):=by
 unfold folE folS
 rw [ht,aliveP_get hk,Int.toNat_natCast]
 cases hf:al[k].1 (keyOf x) with
 | some s=>simp [h1]
 | none =>
   have h2:al[k].2 < 64:=by
    rcases hr with h|h
    ·rw [hf] at h;simp at h
    ·exact h
   simp [h1,h2]
theorem folE_full (hk:k<al.length) (ht:x.table=(k:Int)) (hf:al[k].1 (keyOf x)=none) (hr:x.kind ≠ 1 ∨ ¬ al[k].2 < 64):folE al x=(al,[]):=by
 unfold folE folS
 rw [ht,aliveP_get hk,Int.toNat_natCast,hf]
 have h : ¬ (x.kind = 1∧al[k].2 < 64):=fun h=>hr.elim (fun h'=>h' h.1) (fun h'=>h' h.2)
 simp only [if_neg h,List.set_getElem_self]
 rfl
theorem folE_del (hk:k<al.length) (ht:x.table=(k:Int)) {s:Int} (hf:al[k].1 (keyOf x)=some s) (h3:x.kind = 3):folE al x=(al.set k (putF al[k].1 (keyOf x) none,al[k].2 - 1),[(x,⟨x.table,s⟩,0)]):=by
 unfold folE folS
 rw [ht,aliveP_get hk,Int.toNat_natCast,hf]
 simp [h3]
theorem folE_upd (hk:k<al.length) (ht:x.table=(k:Int)) {s:Int} (hf:al[k].1 (keyOf x)=some s) (h1:x.kind ≠ 1) (h3:x.kind ≠ 3):folE al x=(al,[(x,⟨x.table,s⟩,0)]):=by
 unfold folE folS
 rw [ht,aliveP_get hk,Int.toNat_natCast,hf]
 simp [h1,h3]
end
def AlvBd (al:List Alive):Prop := ∀ a∈al,∀ k s,a.1 k=some s → 0≤s∧s ≤ 1073741824
theorem putF_bd {f:Val→Option Int} (h : ∀ k s,f k=some s → 0≤s∧s ≤ 1073741824) {x:Val} {y:Option Int} (hy : ∀ s,y=some s → 0≤s∧s ≤ 1073741824) : ∀ k s,putF f x y k=some s → 0≤s∧s ≤ 1073741824:=fun k s hs=>by
 unfold putF at hs
 split at hs
 ·exact hy s hs
 ·exact h k s hs
theorem aliveP_bd {al:List Alive} (h:AlvBd al) (i:Int) : ∀ k s,(aliveP al i).1 k=some s → 0≤s∧s ≤ 1073741824:=by
 unfold aliveP
 cases hg:al[i.toNat]? with
 | none=>intro k s hs;cases hs
 | some a=>exact h a (List.mem_of_getElem? hg)
theorem folS_bd {a:Alive} (h : ∀ k s,a.1 k=some s → 0≤s∧s ≤ 1073741824) {x:Chg} (hx : 0≤x.seq∧x.seq ≤ 1073741824) : ∀ k s,(folS a x).1.1 k=some s → 0≤s∧s ≤ 1073741824:=by
 have h1 : ∀ s,some x.seq=some s → 0≤s∧s ≤ 1073741824:=fun s e=>by injection e with e;rw [← e];exact hx
 unfold folS
 split
 ·split
  ·exact putF_bd h h1
  ·split
   ·exact putF_bd h fun s e=>by cases e
   ·exact h
 ·split
  ·exact putF_bd h h1
  ·exact h
theorem AlvBd.step {al:List Alive} (h:AlvBd al) {x:Chg} (hx : 0≤x.seq∧x.seq ≤ 1073741824):AlvBd (folE al x).1:=fun a ha=>by
 unfold folE at ha
 rcases List.mem_or_eq_of_mem_set ha with h1|h1
 ·exact h a h1
 ·rw [h1]
  exact folS_bd (aliveP_bd h _) hx
structure FolR (V:Eff→List Chg) (K0:List Chg) (n:Nat) (l:List Chg) (j:Nat) (al:List Alive) (K:List Chg):Prop where
 live:al=folA (List.replicate n Alive0) (l.take j)
 kept:K=K0++(folL (List.replicate n Alive0) (l.take j)).flatMap V
 bd:AlvBd al
section
variable {V:Eff→List Chg} {K0 K:List Chg} {n j:Nat} {l:List Chg} {al:List Alive}
theorem FolR.zero (V:Eff→List Chg) (K0:List Chg) (n:Nat) (l:List Chg):FolR V K0 n l 0 (List.replicate n Alive0) K0 :=
 ⟨by simp [folA],by simp [folL],fun a ha k s hs=>by rw [(List.mem_replicate.1 ha).2] at hs;cases hs⟩
theorem FolR.next (h:FolR V K0 n l j al K) (hj:j<l.length) (hx:FolOk n l[j]) {al':List Alive} {es:List Eff} (he:folE al l[j]=(al',es)):FolR V K0 n l (j + 1) al' (K++es.flatMap V):=by
 have h1:=h.live
 have e1:(folE al l[j]).1=al':=by rw [he]
 have e2:(folE al l[j]).2=es:=by rw [he]
 refine ⟨?_,?_,?_⟩
 ·rw [List.take_succ_eq_append_getElem hj,folA_snoc,← h1,e1]
 ·rw [List.take_succ_eq_append_getElem hj,folL_snoc,← h1,e2,List.flatMap_append,h.kept,List.append_assoc]
 ·rw [← e1]
  exact h.bd.step hx.seq
theorem FolR.len (h:FolR V K0 n l j al K):al.length=n:=by rw [h.live,folA_len,List.length_replicate]
end
def VisOK (F:Nat) (caps:Array Value) (pk:Nat) (w:World) (l:List Chg) (V:Eff→List Chg):Prop :=
 ∀ (kd sq dy tb:Int) (A0:Option Addr) (cp:Nat) (row:List Val) (key:Val) (cl:Int) (vl:Val) (s r:Int) (u:World) (KA:Option Addr) (kc:Nat) (kl:List Chg),(⟨kd,sq,dy,tb,A0,cp,row,key,cl,vl⟩:Chg)∈l→(0≤s∧s ≤ 1073741824)→(0≤r∧r ≤ 1073741824)→(r ≠ 0→kd = 1)→Below pk w u→KeptL u pk KA kc kl→kl.length ≤ 100000 →
  Calls Tryz.prog F (#[.agg #[.int .i64 kd, .int .i64 sq, .int .i64 dy, .int .i64 tb, .slice A0 row.length cp, .int .i64 key.kind, .int .i64 key.num, .string key.text, .int .i64 cl, .int .i64 vl.kind, .int .i64 vl.num, .string vl.text], .agg #[.int .i64 tb, .int .i64 s], .int .i64 r]++caps) u fun e u' =>
   e = .returned (.tuple #[])∧(∃ KA' kc' kl',KeptL u' pk KA' kc' kl'∧kl'.map unC=kl.map unC++V (⟨kd,sq,dy,tb,A0,cp,row,key,cl,vl⟩,⟨tb,s⟩,r)∧kl'.length≤kl.length + 1)∧VisFr u u' pk KA kl.length kc
theorem infoMapVI:(Tryz.prog.info? 134).map (fun i=>(i.zero,i.size,i.bytes))=some (some (.map none),1,8):=by kernel_rfl
def mapV (b:Nat):Value := .map (some b)
def mapsA (bl:List Nat) (n:Nat):Array Value:=(bl.map mapV++List.replicate (n - bl.length) (Value.map none)).toArray
theorem mapsA_zero (n:Nat):madeCells #[Value.map none] (n * 1)=mapsA [] n:=by
 apply Array.ext
 ·simp [madeCells,mapsA]
 ·intro i h1 h2
  simp [madeCells,mapsA,Nat.mod_one]
theorem mapsA_set {bl:List Nat} {n:Nat} (h:bl.length<n) (b:Nat):(mapsA bl n).setIfInBounds bl.length (mapV b)=mapsA (bl ++ [b]) n:=by
 unfold mapsA
 rw [List.setIfInBounds_toArray,List.set_append_right _ _ spA]
 simp only [List.length_map,Nat.sub_self,List.map_append,List.map_cons,List.map_nil,List.length_append,List.length_cons,List.length_nil,Nat.zero_add]
 rw [show n - bl.length=(n - (bl.length + 1)) + 1 by omega,List.replicate_succ,List.set_cons_zero,List.append_assoc]
 rfl
theorem mapsA_all (bl:List Nat):mapsA bl bl.length=(bl.map fun b=>Value.map (some b)).toArray:=by
 unfold mapsA
 rw [Nat.sub_self,List.replicate_zero,List.append_nil]
 rfl
structure MapsI (w:World) (B q:Nat) (bl:List Nat) (n:Nat):Prop where
 sl:Blk w q 134 (mapsA bl n)
 up:B≤q
 maps : ∀ i (h:i<bl.length),MapC Tryz.prog 53 w bl[i] 0 0 (fun _=>none)
 low : ∀ b∈bl,B≤b
 ord:bl.Pairwise (· < ·)
theorem MapsI.zero {w:World} {B q n:Nat} (h:Blk w q 134 (mapsA [] n)) (hq:B≤q):MapsI w B q [] n:=⟨h,hq,fun i h=>(by simp at h),fun b hb=>(by cases hb),List.Pairwise.nil⟩
theorem MapsI.cell {w:World} {B q n:Nat} {bl:List Nat} (h:MapsI w B q bl n) (hlt:bl.length<n) {m:Nat} (hm:bl.length=m):w.cell? ⟨q,m,none⟩=some (.map none):=by
 rw [h.sl.cell m,← hm]
 unfold mapsA
 rw [List.getElem?_toArray,List.getElem?_append_right spA]
 rw [List.length_map,Nat.sub_self,List.getElem?_replicate,if_pos omA]
theorem MapsI.step {w:World} {B q n:Nat} {bl:List Nat} (h:MapsI w B q bl n) (hlt:bl.length<n) (hB:B≤w.heap.size) {m:Nat} (hm:bl.length=m):MapsI ((w.setCell ⟨q,m,none⟩ (.map (some w.heap.size))).alloc (.map #[] 0)) B q (bl ++ [w.heap.size]) n:=by
 have hsz:(w.setCell ⟨q,m,none⟩ (.map (some w.heap.size))).heap.size=w.heap.size:=by simp [World.setCell]
 subst hm
 refine ⟨?_,h.up,fun i hi => ?_,fun b hb => ?_,?_⟩
 ·have h1:=(h.sl.set_ bl.length (.map (some w.heap.size))).alloc (.map #[] 0)
  have h2:=mapsA_set hlt w.heap.size
  unfold mapV at h2
  rw [h2] at h1
  exact h1
 ·by_cases h1:i<bl.length
  ·rw [List.getElem_append_left h1]
   have hne:bl[i]≠q:=(h.maps i h1).neCells h.sl
   exact ((h.maps i h1).same (Below.heap_setCell _ _ _ _ hne)).alloc _
  ·have h2:i=bl.length:=by simp at hi;omega
   subst h2
   rw [List.getElem_append_right nlr]
   simp only [Nat.sub_self,List.getElem_cons_zero]
   have h3:=MapC.made (w.setCell ⟨q,bl.length,none⟩ (.map (some w.heap.size))) Tryz.prog 53
   rw [hsz] at h3
   exact h3
 ·rcases List.mem_append.1 hb with h1|h1
  ·exact h.low b h1
  ·rw [List.mem_singleton.1 h1];exact hB
 ·refine List.pairwise_append.2 ⟨h.ord,List.pairwise_singleton _ _,fun a ha b hb => ?_⟩
  rw [List.mem_singleton.1 hb]
  obtain ⟨i,hi,rfl⟩:=List.getElem_of_mem ha
  exact (h.maps i hi).lt
theorem MapsI.done {w:World} {B q n:Nat} {bl:List Nat} (h:MapsI w B q bl n) (hn:bl.length=n):AlvM w B q bl (List.replicate n Alive0) 0:=by
 subst hn
 refine ⟨?_,h.up,by simp,fun i hi hi' => ?_,h.low,fun i j hi hj hne e => ?_⟩
 ·have h1:=h.sl
  rw [mapsA_all] at h1
  exact h1
 ·simp only [List.getElem_replicate]
  refine (h.maps i hi).eqf fun x kl _ => ?_
  unfold mapF Alive0
  split <;> rfl
 ·rcases Nat.lt_or_ge i j with h1|h1
  ·have:=List.pairwise_iff_getElem.1 h.ord i j hi hj h1
   omega
  ·have:=List.pairwise_iff_getElem.1 h.ord j i hj hi omA
   omega
end Go.Proofs.YtjhnpnhpmdkpcaaGreat
