/-
  Contracts and plain laws of this seat, part 3: Hold, Cover, Block, Until, HAwake, Src, Rec, SortSrc, CompSrc, RefHold, RefCov.
-/
import Derived.Test.YtkiglflbngfelaaGreatQ2
import Derived.Test.YtkiglflbngfelaaGreatQ1
set_option linter.unusedVariables false
set_option linter.unusedSimpArgs false
set_option maxRecDepth 100000
set_option maxHeartbeats 16000000
namespace Go.Proofs.YtkiglflbngfelaaGreat
open Go.RowKit
structure U8 where
 table:Int
 column:Int
 who:Ident
 seq:Int
 Zk:Int
 Zj:Int
def SI:Ident:=⟨⟨#[]⟩,0,0,⟨#[]⟩⟩
theorem aD.blk {w:World} {g:Nat} {a b c d e f g' h:Value} (k:Blk w g 113 #[a,b,c,d,e,f,g',h]) :
 w.cell? ⟨g,0,none⟩=some a∧w.cell? ⟨g,1,none⟩=some b∧w.cell? ⟨g,2,none⟩=some c∧w.cell? ⟨g,3,none⟩=some d∧w.cell? ⟨g,4,none⟩=some e∧w.cell? ⟨g,5,none⟩=some f∧w.cell? ⟨g,6,none⟩=some g'∧w.cell? ⟨g,7,none⟩=some h :=
 ⟨k.cell 0,k.cell 1,k.cell 2,k.cell 3,k.cell 4,k.cell 5,k.cell 6,k.cell 7⟩
theorem Blk.all {α : Type} {w:World} {g B k:Nat} {t:TypeId} {enc : α → List Value} {l:List α} (hk : ∀ x,(enc x).length=k) (h:Blk w g t (l.flatMap enc).toArray) (hB:g<B):ag w B enc k (some ⟨g,0,none⟩) l :=
 fun _=>⟨g,0,rfl,hB,fun i hi j u hu=>by rw [h.cell,Nat.zero_add];simpa using flat_get hk l i hi j u hu⟩
def hA:U8:=⟨-1,-1,SI,1,3,5⟩
def hB:U8:=⟨-1,-1,SI,1,5,9⟩
structure Src where
 tab:Int
 seq:Int
instance:DecidableEq Src:=fun a b =>
 if h:a.tab=b.tab∧a.seq=b.seq then isTrue (by obtain ⟨_,_⟩:=a;obtain ⟨_,_⟩:=b;simp at h;simp [h])
 else isFalse (fun e=>h (by simp [e]))
instance:Inhabited Src:=⟨⟨0,0⟩⟩
def Src.cells (x:Src):List Value := [.int .i64 x.tab, .int .i64 x.seq]
theorem iG : ∀ x:Src,(Src.cells x).length = 2:=fun _=>rfl
theorem Bt : ∀ x:Src,∀ u∈Src.cells x,u.oneCell'=true:=by
 intro x u hu
 simp only [Src.cells,List.mem_cons,List.not_mem_nil,or_false] at hu
 rcases hu with rfl|rfl <;> rfl
theorem Hq:(Tryz.prog.info? 119).map (fun i=>(i.zero,i.size,i.bytes))=some (some (.agg #[.int .i64 0, .int .i64 0]),2,16):=by kernel_rfl
theorem Src.MU {w:World} {b o:Nat} {x:Src} (h : ∀ j u,x.cells[j]? = some u→w.cell? ⟨b,o+j,none⟩=some u) :
 w.cell? ⟨b,o,none⟩=some (.int .i64 x.tab)∧w.cell? ⟨b,o + 1,none⟩=some (.int .i64 x.seq):=⟨h 0 _ rfl,h 1 _ rfl⟩
def iY (a b:Src):Prop:=a.tab<b.tab∨a.tab=b.tab∧a.seq<b.seq
instance (a b:Src):Decidable (iY a b):=by unfold iY;infer_instance
def vL (a b:Src):Int:=if dH a.tab b.tab = 0 then dH a.seq b.seq else dH a.tab b.tab
theorem D6 {a b c:Src} (h:iY a b) (k:iY b c):iY a c:=by unfold iY at *;omega
theorem BM (a:Src) : ¬ iY a a:=by unfold iY;omega
theorem ND {a b:Src} (h1:a.tab=b.tab) (h2:a.seq=b.seq):a=b:=by
 obtain ⟨_,_⟩:=a
 obtain ⟨_,_⟩:=b
 simp at h1 h2
 simp [h1,h2]
theorem Je (a b:Src):iY a b∨a=b∨iY b a:=by
 by_cases h:a=b
 ·exact .inr (.inl h)
 ·have : ¬ (a.tab=b.tab∧a.seq=b.seq):=fun e=>h (ND e.1 e.2)
  unfold iY
  omega
theorem zb {a b:Int}:dH a b < 0↔a<b:=by unfold dH;split <;> (try split) <;> omega
theorem wE {a b:Int}:dH a b = 0↔a=b:=by unfold dH;split <;> (try split) <;> omega
theorem qO {a b:Src}:vL a b < 0↔iY a b:=by
 unfold vL iY
 split
 ·rename_i h
  rw [wE] at h
  rw [zb]
  omega
 ·rename_i h
  rw [wE] at h
  rw [zb]
  omega
theorem Blk.two {w:World} {g B:Nat} {t:TypeId} {a b:Int} (h:Blk w g t #[.int .i64 a, .int .i64 b]) (hB:g<B):ag w B intCells 1 (some ⟨g,0,none⟩) [a,b]:=Blk.all bq (l := [a,b]) h hB
/-! A sorted list without its doubles. -/
section
variable {α : Type} [DecidableEq α]
def ddE (l:List α):Nat→List α
 | 0 => []
 | m + 1=>match l[m]? with
   | none=>ddE l m
   | some x=>if m = 0 then [x] else if l[m - 1]? = some x then ddE l m else ddE l m ++ [x]
theorem Cu {l:List α} (h : 0<l.length):ddE l 1 = [l[0]]:=by
 simp [ddE,List.getElem?_eq_getElem h]
theorem yY {l:List α} {m:Nat} (h:m<l.length) (h0 : 0<m) (hc:l[m]=l[m - 1]):ddE l (m + 1)=ddE l m:=by
 have h1:m - 1<l.length:=by omega
 rw [ddE,List.getElem?_eq_getElem h]
 simp only [List.getElem?_eq_getElem h1]
 rw [if_neg omA,if_pos (by rw [hc])]
theorem yZ {l:List α} {m:Nat} (h:m<l.length) (h0 : 0<m) (hc : ¬ l[m]=l[m - 1]):ddE l (m + 1)=ddE l m ++ [l[m]]:=by
 have h1:m - 1<l.length:=by omega
 rw [ddE,List.getElem?_eq_getElem h]
 simp only [List.getElem?_eq_getElem h1]
 rw [if_neg omA,if_neg (fun e=>hc (Option.some.inj e).symm)]
theorem yV {l:List α} : ∀ {m:Nat},m≤l.length→(∀ k (h:k<l.length),0<k→k<m → ¬ l[k]=l[k - 1])→ddE l m=l.take m
 | 0,_,_=>by simp [ddE]
 | m + 1,hm,h=>by
   have ih:=yV (m:=m) omA (fun k hk h0 hl=>h k hk h0 omA)
   rw [List.take_succ_eq_append_getElem (by omega:m<l.length)]
   rcases Nat.eq_zero_or_pos m with rfl|h0
   ·rw [Cu hm];simp
   ·rw [yZ (l:=l) (m:=m) omA h0 (h m omA h0 omA),ih]
theorem yX {lt : α → α → Prop} (htr : ∀ {a b c},lt a b→lt b c→lt a c) {l:List α} (hs:l.Pairwise (fun a b=>lt a b∨a=b)) : ∀ {m:Nat},m≤l.length →
 (ddE l m).Pairwise lt∧(∀ x,x∈ddE l m↔x∈l.take m)∧(∀ h:m - 1<l.length,0<m → ∃ i,ddE l m=i ++ [l[m - 1]])
 | 0,_=>⟨by simp [ddE],by simp [ddE],fun _ h=>absurd h omA⟩
 | m + 1,hm=>by
   obtain ⟨ih1,ih2,ih3⟩:=yX (lt:=lt) htr hs (m:=m) omA
   have hml:m<l.length:=by omega
   rw [List.take_succ_eq_append_getElem hml]
   rcases Nat.eq_zero_or_pos m with rfl|h0
   ·rw [Cu hml]
    exact ⟨by simp,by simp,fun h _=>⟨[],rfl⟩⟩
   ·have h1:m - 1<l.length:=by omega
    obtain ⟨i,hi⟩:=ih3 h1 h0
    by_cases hc:l[m]=l[m - 1]
    ·rw [yY hml h0 hc]
     refine ⟨ih1,fun x => ?_,fun _ _=>⟨i,by simpa [hc] using hi⟩⟩
     rw [ih2,List.mem_append,List.mem_singleton]
     refine ⟨.inl,fun h=>h.elim id fun h => ?_⟩
     rw [h,hc]
     have:l[m - 1]∈ddE l m:=by rw [hi];simp
     exact (ih2 _).1 this
    ·rw [yZ hml h0 hc]
     refine ⟨?_,fun x=>by rw [List.mem_append,List.mem_append,ih2],fun _ _=>⟨ddE l m,rfl⟩⟩
     have hlt:lt l[m - 1] l[m]:=by
      rcases List.pairwise_iff_getElem.1 hs (m - 1) m h1 hml omA with h|h
      ·exact h
      ·exact absurd h.symm hc
     refine List.pairwise_append.2 ⟨ih1,by simp,fun a ha b hb => ?_⟩
     rw [List.mem_singleton] at hb
     subst hb
     rw [hi] at ha ih1
     rcases List.mem_append.1 ha with h|h
     ·exact htr ((List.pairwise_append.1 ih1).2.2 a h _ spA) hlt
     ·rw [List.mem_singleton] at h
      rw [h];exact hlt
def yU (l:List α):List α := ddE l l.length
theorem Ct {l:List α} (h:l.length < 2):yU l=l:=by
 match l,h with
 | [],_=>rfl
 | [x],_=>exact Cu spA
theorem Gs {lt : α → α → Prop} (htr : ∀ {a b c},lt a b→lt b c→lt a c) {l:List α} (hs:l.Pairwise (fun a b=>lt a b∨a=b)):(yU l).Pairwise lt:=(yX (lt:=lt) htr hs nlr).1
theorem Gr {lt : α → α → Prop} (htr : ∀ {a b c},lt a b→lt b c→lt a c) {l:List α} (hs:l.Pairwise (fun a b=>lt a b∨a=b)) (x : α):x∈yU l↔x∈l:=by
 have:=(yX (lt:=lt) htr hs nlr).2.1 x
 rwa [List.take_length] at this
end
def orOf:List Int→Int
 | [] => 0
 | x::l=>if x = 0 then orOf l else x
theorem He : ∀ {l:List Int} {m:Nat} (h:m<l.length),(∀ i (h:i<l.length),i<m→l[i] = 0)→l[m] ≠ 0→orOf l=l[m]
 | x::l,0,_,_,hx=>by simp only [orOf];rw [if_neg (by simpa using hx)];rfl
 | x::l,m + 1,h,h0,hx=>by
   have e:x = 0:=h0 0 spA omA
   simp only [orOf]
   rw [if_pos e]
   have:=He (l:=l) (m:=m) (by simpa using h) (fun i hi hm=>h0 (i + 1) (by simpa using hi) omA) (by simpa using hx)
   simpa using this
theorem Ay : ∀ {l:List Int},(∀ i (h:i<l.length),l[i] = 0)→orOf l = 0
 | [],_=>rfl
 | x::l,h=>by
   have e:x = 0:=h 0 spA
   simp only [orOf]
   rw [if_pos e]
   exact Ay (fun i hi=>h (i + 1) (by simpa using hi))
theorem KU (a b:Int):orOf [a,b]=if a = 0 then b else a:=by
 simp only [orOf]
 by_cases h:a = 0
 ·rw [if_pos h,if_pos h]
  by_cases k:b = 0
  ·rw [if_pos k,k]
  ·rw [if_neg k]
 ·rw [if_neg h,if_neg h]
theorem Ry (A:Option Addr) (c n:Nat) (l:List Int) (w:World) (hl:ag w w.heap.size intCells 1 A l) (hln:l.length=n) (hn:n ≤ 1000000) :
 Calls Tryz.prog 110 #[.slice A n c] w fun e w'=>e = .returned (.int .i64 (orOf l))∧w=w':=by
 subst hln
 have HL:=qh hl
 clear hl
 go_enter Tryz.func110,Tryz.ntmps110
 go_wp2_with fail
 go_loopw [8] (fun vi wr => ∃ m:Nat,m≤l.length∧vi = .int .i64 m∧w=wr∧(∀ i (h:i<l.length),i<m→l[i] = 0)) (fun vi _=>l.length - (intOf vi).toNat)
 case atStart=>exact ⟨0,Nat.zero_le _,rfl,rfl,fun i _ h=>by omega⟩
 case round =>
  obtain ⟨m,hm,rfl,rfl,hok⟩:=hrel
  have HOK:=qh hok
  clear hok
  by_cases hlt:m<l.length
  ·obtain ⟨b5,o5,rfl,hb5,hc5⟩:=HL.out.get hlt
   have x0:=hc5 0 _ rfl
   simp only [Nat.mul_one,Nat.add_zero] at x0
   clear hc5
   by_cases hz:l[m] = 0
   ·have hz':(l[m] != 0)=false:=by simpa using hz
    have HZ:=qh hz
    clear hz
    go_wp2_with fail
    go_roundw
    case rel=>exact ⟨m + 1,by omega,by go_num,trivial,fun i h hi=>by
     rcases Nat.lt_or_ge i m with h1|h1
     ·exact HOK.out i h h1
     ·obtain rfl:i=m:=by omega
      exact HZ.out⟩
    case measure=>exact meA
   ·have hz':(l[m] != 0)=true:=by simpa using hz
    have HF:=qh (He hlt HOK.out hz)
    clear hz
    go_wp2_with fail
    go_ret
    exact ⟨aH HF.out.symm,rfl⟩
  ·have hlt':decide (m<l.length)=false:=by simpa using hlt
   have HF:=qh (Ay (l:=l) (fun i h=>HOK.out i h omA))
   go_wp2_with fail
   go_ret
   exact ⟨aH HF.out.symm,rfl⟩
open Go.RowKit Go.Shelf Go.Sort
theorem Rw (x y:Src) (w:World):(Op.equalIn 10000 119 (.agg #[.int .i64 x.tab, .int .i64 x.seq]) (.agg #[.int .i64 y.tab, .int .i64 y.seq])).run Tryz.prog w = .ok (decide (x=y)) w:=by
 have hS:Tryz.prog.underlying 119=some (.struct (Tryz.prog.fieldsOf 119)):=by kernel_rfl
 have hp:Tryz.prog.stoodInHeld 119=false:=by kernel_rfl
 have u3:=Tryz.underlying3
 rw [show (10000:Nat) = 9999 + 1 from rfl,run_equalIn_agg w _ 119 _ _ hS hp]
 simp only [Program.fieldsOf,Tryz.underlying119]
 go_simp
 obtain ⟨a,b⟩:=x
 obtain ⟨a',b'⟩:=y
 simp only [Src.mk.injEq]
 by_cases h0:a=a' <;> by_cases h1:b=b' <;> simp [h0,h1]
theorem AX {x y:Src} {b:Bool} (h:decide (x=y)=b) : ∀ w:World,(Op.equalIn 10000 119 (.agg #[.int .i64 x.tab, .int .i64 x.seq]) (.agg #[.int .i64 y.tab, .int .i64 y.seq])).run Tryz.prog w = .ok b w :=
 fun w=>by rw [Rw,h]
end Go.Proofs.YtkiglflbngfelaaGreat
