/-
  Contracts and plain laws of this seat, part 31: TIns, TNew, TOwn, TCpy.
-/
import Derived.Test.YtjhnpnhpmdkpcaaGreatA7
set_option linter.unusedVariables false
set_option linter.unusedSimpArgs false
set_option maxRecDepth 100000
set_option maxHeartbeats 16000000
namespace Go.Proofs.YtjhnpnhpmdkpcaaGreat
open Go.RowKit Go
theorem clone_vals (b o c n:Nat) (l:List Val) (w:World) (hl:SliceIs w w.heap.size Val.cells 3 (some ⟨b,o,none⟩) l) (hln:l.length=n) (hn:n ≤ 1000000) :
 Calls Tryz.prog 76 #[.slice (some ⟨b,o,none⟩) n c] w fun e w' =>
  (∃ A' c',e = .returned (.slice A' n c')∧Owns w' w.heap.size 53 Val.cells 3 (.slice A' n c') l)∧Below w.heap.size w w':=by
 subst hln
 obtain ⟨i0,hi0,hz0,hz1,hz2⟩:=info_parts infoVal
 go_enter Tryz.func76,Tryz.ntmps76
 have hnil:(binOp .eql 46 (.slice (some ⟨b,o,none⟩) l.length c) (.slice none 0 0)).run Tryz.prog w = .ok (.bool false) w:=Lib.run_eql_slice_nil w 46 53 (some ⟨b,o,none⟩) l.length c 0 0 Tryz.underlying46
 go_wp2_with ((at_builtin;refine wpList_append_list _ rfl (.tmp 5) (.tmp 6) 46 rfl 53 i0 _ Val.cells 3 32 Tryz.underlying46 hi0 hz0 hz1 hz2 rfl omA val_len val_one w.heap.size (.slice (some ⟨w.heap.size,0,none⟩) 0 0) [] rfl (Owns.empty (Blk.new' rfl) nlr) _ _ _ l rfl rfl (hl.next belA) smA mxA spA ?_;intro v' w1 hown' hg' hat';obtain ⟨A',c',hv',_,_⟩:=hown'.form;have HOWN':=qh hown';clear hown';have hbel:Below w.heap.size w w1:=Below.grown belA hg' spA (own_row nlr)))
 go_ret
 have h:=HOWN'.out
 simp only [List.nil_append] at hv' h
 subst hv'
 exact ⟨⟨A',c',rfl,h⟩,hbel⟩
open Go.RowKit Go
theorem clone_ints (b o c n:Nat) (l:List Int) (w:World) (hl:SliceIs w w.heap.size intCells 1 (some ⟨b,o,none⟩) l) (hln:l.length=n) (hn:n ≤ 1000000) :
 Calls Tryz.prog 42 #[.slice (some ⟨b,o,none⟩) n c] w fun e w' =>
  (∃ A' c',e = .returned (.slice A' n c')∧Owns w' w.heap.size 3 intCells 1 (.slice A' n c') l)∧Below w.heap.size w w':=by
 subst hln
 obtain ⟨i0,hi0,hz0,hz1,hz2⟩:=info_parts infoIntT
 go_enter Tryz.func42,Tryz.ntmps42
 have hnil:(binOp .eql 22 (.slice (some ⟨b,o,none⟩) l.length c) (.slice none 0 0)).run Tryz.prog w = .ok (.bool false) w:=Lib.run_eql_slice_nil w 22 3 (some ⟨b,o,none⟩) l.length c 0 0 Tryz.underlying22
 go_wp2_with ((at_builtin;refine wpList_append_list _ rfl (.tmp 5) (.tmp 6) 22 rfl 3 i0 _ intCells 1 8 Tryz.underlying22 hi0 hz0 hz1 hz2 rfl omA int_len int_one w.heap.size (.slice (some ⟨w.heap.size,0,none⟩) 0 0) [] rfl (Owns.empty (Blk.new' rfl) nlr) _ _ _ l rfl rfl (hl.next belA) smA mxA spA ?_;intro v' w1 hown' hg' hat';obtain ⟨A',c',hv',_,_⟩:=hown'.form;have HOWN':=qh hown';clear hown';have hbel:Below w.heap.size w w1:=Below.grown belA hg' spA (own_row nlr)))
 go_ret
 have h:=HOWN'.out
 simp only [List.nil_append] at hv' h
 subst hv'
 exact ⟨⟨A',c',rfl,h⟩,hbel⟩
end Go.Proofs.YtjhnpnhpmdkpcaaGreat
