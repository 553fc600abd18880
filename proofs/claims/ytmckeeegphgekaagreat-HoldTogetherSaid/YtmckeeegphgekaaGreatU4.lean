/-
  Contracts and plain laws of this seat, part 4: RefBlk, RefUnt, Records, RefSrc, HBlocked, HBlk2, RefBld, HLooks.
-/
import Derived.Test.YtmckeeegphgekaaGreatU3
set_option linter.unusedVariables false
set_option linter.unusedSimpArgs false
namespace Go.Proofs.YtmckeeegphgekaaGreat
open Go.RowKit
theorem idle_Covers (w:World):CallsD Tryz.prog 48 #[] .returning w fun e u' w'=>e = .returned (.tuple #[])∧u' = .returning∧w'=w:=by
 refine callsD_of_wpS Tryz.func48 rfl fun c₀ cs hu => ?_
 apply wpS_region
 cases c₀
 simp_all [wpOpsS,go_sem,recoverD,Tryz.ntmps48,bodyPostS,results,Tryz.results48]
theorem saneH_one {x:Hold} (h:x.who.ns.size ≤ 1000000):SaneH [x]:=fun y hy=>by rw [List.mem_singleton.1 hy];exact h
theorem holdOk_seq {x:Hold} (h:holdOk x=true):x.seq ≤ 9223372036854775807:=by
 obtain ⟨_,_,_,_,_,_,h,_⟩:=(holdOk_iff _).1 h
 omega
theorem one_valid {x:Hold} {b:Bool} (h:holdOk x=b):validHolds [x]=b:=by
 simp [validHolds,h]
set_option maxRecDepth 100000 in
set_option maxHeartbeats 4000000 in
theorem hold_Covers (x:Hold) (A:Option Addr) (c n:Nat) (l:List Link) (t col sq rec dy:Int) (A':Option Addr) (c' n':Nat) (own:List Ident) (nul lst:Bool) (w:World) (hl:SliceIs w w.heap.size Link.cells 10 A l) (hln:l.length=n) (hn:n ≤ 1000000) (hs:Sane l) (hsx:x.who.ns.size ≤ 1000000) (ho:SliceIs w w.heap.size Ident.cells 4 A' own) (hon:own.length=n') (hn':n' ≤ 1000000) {r:Bool} (hr:(holdOk x&&validLinks l&&coversB x l t col own)=r) :
 Calls Tryz.prog 18 #[.agg #[.int .i64 x.table, .int .i64 x.column, .string x.who.ns, .int .i64 x.who.val.kind, .int .i64 x.who.val.num, .string x.who.val.text, .int .i64 x.seq, .int .i64 x.day0, .int .i64 x.day1], .slice A n c, .agg #[.int .i64 t, .int .i64 col, .int .i64 sq, .int .i64 rec, .int .i64 dy, .slice A' n' c', .bool nul, .bool lst]] w fun e w'=>e = .returned (.bool r)∧Below w.heap.size w w':=by
 subst hln hon hr
 have HS:=qh hs
 have HL:=qh hl
 have HO:=qh ho
 clear hs hl ho
 cases hk:holdOk x
 ·have HK:=qh hk
  have HK1:=qh (one_valid hk)
  clear hk
  go_enter_defers Tryz.func18,Tryz.ntmps18
  go_wp2_with (first
   | (go_at_call 42;(with_reducible refine (hold_ValidB _ 1 1 [x] _ ?_ (by simp) (by omega) (saneH_one hsx) HK1.out).mono ?_);(exact Blk.one (enc:=Hold.cells) (x:=x) (Blk.new' (t := 61) (by simp)) (by simp));rintro e w1 ⟨rfl,hb1⟩;have hx1:Below w.heap.size w w1:=below_nextN (by exact belA) hb1 leA;obtain ⟨k1,f1,z1⟩:=keepB hb1 w.heap.size ltA;obtain ⟨k2,f2,z2⟩:=keepB hb1 (w.heap.size + 1) ltA)
   | (go_at_call 43;(with_reducible refine (identity_ValidN A c l.length l _ ((HL.out.below hx1).mono hx1.size) rfl hn HS.out HV.out).mono ?_);rintro e w2 ⟨rfl,hb2⟩;have hx2:Below w.heap.size w w2:=below_nextN hx1 hb2 hx1.size;obtain ⟨k3,f3,z3⟩:=keepB hb2 w.heap.size z1;obtain ⟨k4,f4,z4⟩:=keepB hb2 (w.heap.size + 1) z2)
   | (go_at_call 44;(with_reducible refine (hold_covers x A c l.length l t col sq rec dy A' c' own.length own nul lst _ ((HL.out.below hx2).mono hx2.size) rfl hn HS.out hsx (holdOk_seq HK.out) ((HO.out.below hx2).mono hx2.size) rfl hn' HC.out).mono ?_);rintro e w3 ⟨rfl,hb3⟩;have hx3:Below w.heap.size w w3:=below_nextN hx2 hb3 hx2.size))
  refine leaves_cons (f := 48) (args := #[]) (by simp) (by simp [go_sem]) ?_;refine (idle_Covers _).mono ?_;rintro e u' w'' ⟨rfl,rfl,rfl⟩;refine ⟨_,results_tmp rfl _ _ _,?_⟩
  exact ⟨rfl,hx1⟩
 ·have HK:=qh hk
  have HK1:=qh (one_valid hk)
  clear hk
  cases hv:validLinks l
  ·have HV:=qh hv
   clear hv
   go_enter_defers Tryz.func18,Tryz.ntmps18
   go_wp2_with (first
    | (go_at_call 42;(with_reducible refine (hold_ValidB _ 1 1 [x] _ ?_ (by simp) (by omega) (saneH_one hsx) HK1.out).mono ?_);(exact Blk.one (enc:=Hold.cells) (x:=x) (Blk.new' (t := 61) (by simp)) (by simp));rintro e w1 ⟨rfl,hb1⟩;have hx1:Below w.heap.size w w1:=below_nextN (by exact belA) hb1 leA;obtain ⟨k1,f1,z1⟩:=keepB hb1 w.heap.size ltA;obtain ⟨k2,f2,z2⟩:=keepB hb1 (w.heap.size + 1) ltA)
    | (go_at_call 43;(with_reducible refine (identity_ValidN A c l.length l _ ((HL.out.below hx1).mono hx1.size) rfl hn HS.out HV.out).mono ?_);rintro e w2 ⟨rfl,hb2⟩;have hx2:Below w.heap.size w w2:=below_nextN hx1 hb2 hx1.size;obtain ⟨k3,f3,z3⟩:=keepB hb2 w.heap.size z1;obtain ⟨k4,f4,z4⟩:=keepB hb2 (w.heap.size + 1) z2)
    | (go_at_call 44;(with_reducible refine (hold_covers x A c l.length l t col sq rec dy A' c' own.length own nul lst _ ((HL.out.below hx2).mono hx2.size) rfl hn HS.out hsx (holdOk_seq HK.out) ((HO.out.below hx2).mono hx2.size) rfl hn' HC.out).mono ?_);rintro e w3 ⟨rfl,hb3⟩;have hx3:Below w.heap.size w w3:=below_nextN hx2 hb3 hx2.size))
   refine leaves_cons (f := 48) (args := #[]) (by simp) (by simp [go_sem]) ?_;refine (idle_Covers _).mono ?_;rintro e u' w'' ⟨rfl,rfl,rfl⟩;refine ⟨_,results_tmp rfl _ _ _,?_⟩
   exact ⟨rfl,hx2⟩
  ·have HV:=qh hv
   clear hv
   obtain ⟨r,hr⟩ : ∃ r,coversB x l t col own=r:=⟨_,rfl⟩
   rw [hr]
   have HC:=qh hr
   clear hr
   go_enter_defers Tryz.func18,Tryz.ntmps18
   go_wp2_with (first
    | (go_at_call 42;(with_reducible refine (hold_ValidB _ 1 1 [x] _ ?_ (by simp) (by omega) (saneH_one hsx) HK1.out).mono ?_);(exact Blk.one (enc:=Hold.cells) (x:=x) (Blk.new' (t := 61) (by simp)) (by simp));rintro e w1 ⟨rfl,hb1⟩;have hx1:Below w.heap.size w w1:=below_nextN (by exact belA) hb1 leA;obtain ⟨k1,f1,z1⟩:=keepB hb1 w.heap.size ltA;obtain ⟨k2,f2,z2⟩:=keepB hb1 (w.heap.size + 1) ltA)
    | (go_at_call 43;(with_reducible refine (identity_ValidN A c l.length l _ ((HL.out.below hx1).mono hx1.size) rfl hn HS.out HV.out).mono ?_);rintro e w2 ⟨rfl,hb2⟩;have hx2:Below w.heap.size w w2:=below_nextN hx1 hb2 hx1.size;obtain ⟨k3,f3,z3⟩:=keepB hb2 w.heap.size z1;obtain ⟨k4,f4,z4⟩:=keepB hb2 (w.heap.size + 1) z2)
    | (go_at_call 44;(with_reducible refine (hold_covers x A c l.length l t col sq rec dy A' c' own.length own nul lst _ ((HL.out.below hx2).mono hx2.size) rfl hn HS.out hsx (holdOk_seq HK.out) ((HO.out.below hx2).mono hx2.size) rfl hn' HC.out).mono ?_);rintro e w3 ⟨rfl,hb3⟩;have hx3:Below w.heap.size w w3:=below_nextN hx2 hb3 hx2.size))
   refine leaves_cons (f := 48) (args := #[]) (by simp) (by simp [go_sem]) ?_;refine (idle_Covers _).mono ?_;rintro e u' w'' ⟨rfl,rfl,rfl⟩;refine ⟨_,results_tmp rfl _ _ _,?_⟩
   exact ⟨rfl,hx3⟩
structure Owned where
 table:Int
 col:Int
 seq:Int
 record:Int
 day:Int
 A:Option Addr
 cap:Nat
 own:List Ident
 null:Bool
 last:Bool
def Owned.cells (x:Owned):List Value := [.int .i64 x.table, .int .i64 x.col, .int .i64 x.seq, .int .i64 x.record, .int .i64 x.day, .slice x.A x.own.length x.cap, .bool x.null, .bool x.last]
theorem owned_len : ∀ x:Owned,(Owned.cells x).length = 8:=fun _=>rfl
theorem owned_one : ∀ x:Owned,∀ u∈Owned.cells x,u.oneCell'=true:=by
 intro x u hu
 simp only [Owned.cells,List.mem_cons,List.not_mem_nil,or_false] at hu
 rcases hu with rfl|rfl|rfl|rfl|rfl|rfl|rfl|rfl <;> rfl
theorem infoOwned:(Tryz.prog.info? 50).map (fun i=>(i.zero,i.size,i.bytes))=some (some (.agg #[.int .i64 0, .int .i64 0, .int .i64 0, .int .i64 0, .int .i64 0, .slice none 0 0, .bool false, .bool false]),8,72):=by kernel_rfl
theorem Owned.cells8 {w:World} {b o:Nat} {x:Owned} (h : ∀ j u,x.cells[j]? = some u→w.cell? ⟨b,o+j,none⟩=some u) :
 w.cell? ⟨b,o,none⟩=some (.int .i64 x.table)∧w.cell? ⟨b,o + 1,none⟩=some (.int .i64 x.col)∧w.cell? ⟨b,o + 2,none⟩=some (.int .i64 x.seq)∧w.cell? ⟨b,o + 3,none⟩=some (.int .i64 x.record)∧w.cell? ⟨b,o + 4,none⟩=some (.int .i64 x.day)∧w.cell? ⟨b,o + 5,none⟩=some (.slice x.A x.own.length x.cap)∧w.cell? ⟨b,o + 6,none⟩=some (.bool x.null)∧w.cell? ⟨b,o + 7,none⟩=some (.bool x.last) :=
 ⟨h 0 _ rfl,h 1 _ rfl,h 2 _ rfl,h 3 _ rfl,h 4 _ rfl,h 5 _ rfl,h 6 _ rfl,h 7 _ rfl⟩
def OwnersIn (w:World) (B:Nat) (l:List Owned):Prop := ∀ x∈l,SliceIs w B Ident.cells 4 x.A x.own∧x.own.length ≤ 1000000
theorem OwnersIn.below {w w':World} {B:Nat} {l:List Owned} (h:OwnersIn w B l) (hb:Below B w w'):OwnersIn w' B l:=fun x hx=>⟨(h x hx).1.below hb,(h x hx).2⟩
theorem OwnersIn.mono {w:World} {B B':Nat} {l:List Owned} (h:OwnersIn w B l) (hb:B≤B'):OwnersIn w B' l:=fun x hx=>⟨(h x hx).1.mono hb,(h x hx).2⟩
theorem OwnersIn.next {w w':World} {l:List Owned} (h:OwnersIn w w.heap.size l) (hb:Below w.heap.size w w'):OwnersIn w' w'.heap.size l:=(h.below hb).mono hb.size
theorem tw_take {α : Type} (p : α → Bool) : ∀ l:List α,l.take (l.takeWhile p).length=l.takeWhile p
 | []=>rfl
 | x::l=>by
   cases h:p x
   ·rw [List.takeWhile_cons_of_neg (by rw [h];decide)]
    rfl
   ·rw [List.takeWhile_cons_of_pos h,List.length_cons,List.take_succ_cons,tw_take p l]
theorem tw_at {α : Type} (p : α → Bool) : ∀ (l:List α) (h:(l.takeWhile p).length<l.length),p l[(l.takeWhile p).length]=false
 | [],h=>by simp at h
 | x::l,h=>by
   cases hx:p x
   ·have e:((x::l).takeWhile p).length = 0:=by rw [List.takeWhile_cons_of_neg (by rw [hx];decide)];rfl
    simp only [e]
    exact hx
   ·have e:((x::l).takeWhile p).length=(l.takeWhile p).length + 1:=by rw [List.takeWhile_cons_of_pos hx];rfl
    have h':(l.takeWhile p).length<l.length:=by rw [e] at h;simpa using h
    have:=tw_at p l h'
    simp only [e]
    exact this
/-! A source put into an ascending list. -/
def UntilIs (hs:List Hold) (l:List Link) (t c:Int) (own:List Ident) (day r:Int):Prop:=if (validHolds hs&&validLinks l)=true then UntilOut (covering hs l t c own day) day r else r = 0
end Go.Proofs.YtmckeeegphgekaaGreat
