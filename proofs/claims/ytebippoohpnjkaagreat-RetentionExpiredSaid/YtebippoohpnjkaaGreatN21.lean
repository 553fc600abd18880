/-
  Contracts and plain laws of this seat, part 21.
-/
import Derived.Test.YtebippoohpnjkaaGreatN20
set_option linter.unusedVariables false
set_option linter.unusedSimpArgs false
set_option maxRecDepth 100000
set_option maxHeartbeats 16000000
namespace Go.Proofs.YtebippoohpnjkaaGreat
open Go.RowKit
theorem Kb:(Tryz.prog.info? 89).map (fun i=>(i.zero,i.size,i.bytes))=some (some (.slice none 0 0),1,24):=by kernel_rfl
def rV(V:World)(Q k:Nat)(wc:World):Prop:= ∃u v,Below V.heap.size V u∧wc=u.setCell ⟨Q,k,none⟩ v
theorem rV.blk{V wc:World}{Q k g:Nat}{t:TypeId}{cs:Array Value}(h:rV V Q k wc)(hb:Blk V g t cs)(hg:g≠Q):Blk wc g t cs:=by
 obtain⟨u,v,hu,rfl⟩:=h
 exact(hb.below hu hb.lt).far hg _
theorem rV.alv{V wc:World}{Q k base n B:Nat}{x:Alv}{cs:Array Value}(h:rV V Q k wc)(hc:V.heap[Q]?=some (.cells cs 89 (0,0)))(ha:dh V base n B x):dh wc base n B x:=by
 obtain⟨u,v,hu,rfl⟩:=h
 have hQ:Q<V.heap.size:=by
  rcases Nat.lt_or_ge Q V.heap.size with h|h
  ·exact h
  ·rw[Array.getElem?_eq_none h]at hc;cases hc
 exact(ha.below hu).di ((hu.block Q hQ).trans hc) wZ Ay _
theorem rV.below{V0 V wc:World}{Q k B:Nat}(h:rV V Q k wc)(hb:Below B V0 V)(hB:B≤V.heap.size)(hQ:B≤Q):Below B V0 wc:=by
 obtain⟨u,v,hu,rfl⟩:=h
 exact(ae hb hu hB).setCell hQ _
theorem NM(c0 c1 c2 c3 c4 c6 c7 c10 c11 c12 c13 c14 c15 c16 c17 c18 c19 c20 c21 c22 c23 c24 c25 c26 c27 c28 c29 c30 c31 c32 c33 c34 c35 c36 c37 c38 c39 c40 c41 c42 c43 c44 c45 c46 c47 c48 c49 c50 c51 c52 c53 c54 c55 c56 c57 c58 c59 c60 c61 c62 c63 c64 c65 c66 c67 c68 c69 c70 c71 c72 c73 c74 c75 c76 c77 c78 c79 c80 c81 c82 c83 c84 c85 c86 c87 c88 c89 c90 c91 c92 c93 c94 c95 c96 c97 c98 c99 mo mi lu lq lh c105 lg c107 kZ c109 kY kX kW kV mh mg c116 c117 mf c119 ma l9 l7 l5 c124 lZ lY c127 lX lW c130 c131 lV kU kT kS kR kQ c138 c139 jX c141 jW c143 kP c145 c146 kN c148 kM kL kK c152 kJ c154 kI c156 c157 kH c159 c160 kG c162 kF c164 jV jJ c167 c168 jI jH c171 jG c173 jF c175 jE jD jC jB jU jT c182 c183 jS jR jQ jP jO rD rC rz ry c193 c194 rq c196 rf c198 qZ qY c201 qX c203 qo:Value)(Q n X k:Nat)(TA:Option Addr)(tc:Nat)(recs:List Alv)(kv:Val)(z:Int)(W:World)(q3:W.cell? ⟨X,3,none⟩=some (.int .i64 (k:Int)))(g0:W.cell? ⟨Q,k,none⟩=some (.slice TA recs.length tc))(k0:W.cell? ⟨X+1,0,none⟩=some (.int .i64 kv.kind))(k1:W.cell? ⟨X+1,1,none⟩=some (.int .i64 kv.num))(k2:W.cell? ⟨X+1,2,none⟩=some (.string kv.text))(hX:X+1<W.heap.size)(hQ:Q<W.heap.size)(hkt:k<n)(hr:ah W W.heap.size Alv.cells 6 TA recs)(hri:recs.length≤1000000)(hz:gI recs kv=z)(KK:Exit→Act→World→Prop)
 (hPP:∀c (d:Nat) v a w,KK (.panic c) (Act.put a (some d) v) w→KK (.panic c) a w)
 (hKK:∀(u10 u41 u42 u43 u44 u45 u46 u47:Value) (wc:World),u10=.int .i64 z∧Below W.heap.size W wc→KK .normal ⟨#[c0,c1,c2,c3,c4,.slice (some ⟨Q,0,none⟩) n n,c6,c7,.pointer (some ⟨X,0,none⟩),.pointer (some ⟨X+1,0,none⟩),u10,c11,c12,c13,c14,c15,c16,c17,c18,c19,c20,c21,c22,c23,c24,c25,c26,c27,c28,c29,c30,c31,c32,c33,c34,c35,c36,c37,c38,c39,c40,u41,u42,u43,u44,u45,u46,u47,c48,c49,c50,c51,c52,c53,c54,c55,c56,c57,c58,c59,c60,c61,c62,c63,c64,c65,c66,c67,c68,c69,c70,c71,c72,c73,c74,c75,c76,c77,c78,c79,c80,c81,c82,c83,c84,c85,c86,c87,c88,c89,c90,c91,c92,c93,c94,c95,c96,c97,c98,c99,mo,mi,lu,lq,lh,c105,lg,c107,kZ,c109,kY,kX,kW,kV,mh,mg,c116,c117,mf,c119,ma,l9,l7,l5,c124,lZ,lY,c127,lX,lW,c130,c131,lV,kU,kT,kS,kR,kQ,c138,c139,jX,c141,jW,c143,kP,c145,c146,kN,c148,kM,kL,kK,c152,kJ,c154,kI,c156,c157,kH,c159,c160,kG,c162,kF,c164,jV,jJ,c167,c168,jI,jH,c171,jG,c173,jF,c175,jE,jD,jC,jB,jU,jT,c182,c183,jS,jR,jQ,jP,jO,rD,rC,rz,ry,c193,c194,rq,c196,rf,c198,qZ,qY,c201,qX,c203,qo],[]⟩ wc):
 Code.wp Tryz.prog (nI Tryz.f11 12) KK ⟨#[c0,c1,c2,c3,c4,.slice (some ⟨Q,0,none⟩) n n,c6,c7,.pointer (some ⟨X,0,none⟩),.pointer (some ⟨X+1,0,none⟩),c10,c11,c12,c13,c14,c15,c16,c17,c18,c19,c20,c21,c22,c23,c24,c25,c26,c27,c28,c29,c30,c31,c32,c33,c34,c35,c36,c37,c38,c39,c40,c41,c42,c43,c44,c45,c46,c47,c48,c49,c50,c51,c52,c53,c54,c55,c56,c57,c58,c59,c60,c61,c62,c63,c64,c65,c66,c67,c68,c69,c70,c71,c72,c73,c74,c75,c76,c77,c78,c79,c80,c81,c82,c83,c84,c85,c86,c87,c88,c89,c90,c91,c92,c93,c94,c95,c96,c97,c98,c99,mo,mi,lu,lq,lh,c105,lg,c107,kZ,c109,kY,kX,kW,kV,mh,mg,c116,c117,mf,c119,ma,l9,l7,l5,c124,lZ,lY,c127,lX,lW,c130,c131,lV,kU,kT,kS,kR,kQ,c138,c139,jX,c141,jW,c143,kP,c145,c146,kN,c148,kM,kL,kK,c152,kJ,c154,kI,c156,c157,kH,c159,c160,kG,c162,kF,c164,jV,jJ,c167,c168,jI,jH,c171,jG,c173,jF,c175,jE,jD,jC,jB,jU,jT,c182,c183,jS,jR,jQ,jP,jO,rD,rC,rz,ry,c193,c194,rq,c196,rf,c198,qZ,qY,c201,qX,c203,qo],[]⟩ W:=by
 have HKK:=qh hKK
 have HPP:=qh hPP
 clear hKK hPP
 have oL:=qh hr
 have HZ:=qh hz
 have Ky:decide (k<n)=true:=by simpa using hkt
 clear hr hz
 conv=>arg 2;whnf
 refine aT (S:=(fun v=>Below W.heap.size W v)) [] krA (brf.drew) (fun hHeld =>?_)
 refine tkT 0 hHeld ?_ (hQ:=fun c a w h=>HPP.out c _ _ a w h)
 refine tkT 1 hHeld ?_ (hQ:=fun c a w h=>HPP.out c _ _ a w h)
 refine tkT 2 hHeld ?_ (hQ:=fun c a w h=>HPP.out c _ _ a w h) (hy:=by intro v hSv;(try dsimp only at hSv);have h1:=keepW hSv X omA;go_simp;first|done|with_reducible rfl)
 refine tkT 3 hHeld ?_ (hQ:=fun c a w h=>HPP.out c _ _ a w h)
 refine tkT 4 hHeld ?_ (hQ:=fun c a w h=>HPP.out c _ _ a w h) (hy:=by intro v hSv;(try dsimp only at hSv);have h1:=keepW hSv Q omA;go_simp;first|done|with_reducible rfl)
 refine tkT 5 hHeld ?_ (hQ:=fun c a w h=>HPP.out c _ _ a w h) (hy:=by intro v hSv;(try dsimp only at hSv);have h1:=keepW hSv (X+1) omA;go_simp;first|done|with_reducible rfl)
 refine au (P:=fun v=>wpT _ _ _ _ _ _ _ _ _ v) (R:=fun v=>Below W.heap.size W v) hHeld ?_
 clear hHeld
 rintro u0 hU0
 have hHeld:=hU0
 refine r1T 6 (fun K hK =>?_)
 go_simp
 (go_at_call 40;(with_reducible refine(xu TA tc recs.length recs kv u0 (oL.out.next hU0) rfl omA HZ.out).mono ?_))
 rintro e V ⟨rfl,BR⟩
 have hUV:=ae hU0 BR hU0.size
 refine hK.out _ _ _ hUV (fun hHeld =>?_)
 clear hK K
 refine tkT 7 hHeld ?_ (hQ:=fun c a w h=>HPP.out c _ _ a w h)
 refine bf krA ?_ _
 exact HKK.out _ _ _ _ _ _ _ _ _ ⟨rfl,hUV⟩
theorem NL(c0 c1 c2 c3 c4 c6 c7 c9 c11 c12 c13 c14 c15 c16 c17 c18 c19 c20 c21 c22 c23 c24 c25 c26 c27 c28 c29 c30 c31 c32 c33 c34 c35 c36 c37 c38 c39 c40 c41 c42 c43 c44 c45 c46 c47 c48 c49 c50 c51 c52 c53 c54 c55 c56 c57 c58 c59 c60 c61 c62 c63 c64 c65 c66 c67 c68 c69 c70 c71 c72 c73 c74 c75 c76 c77 c78 c79 c80 c81 c82 c83 c84 c85 c86 c87 c88 c89 c90 c91 c92 c93 c94 c95 c96 c97 c98 c99 mo mi lu lq lh c105 lg c107 kZ c109 kY kX kW kV mh mg c116 c117 mf c119 ma l9 l7 l5 c124 lZ lY c127 lX lW c130 c131 lV kU kT kS kR kQ c138 c139 jX c141 jW c143 kP c145 c146 kN c148 kM kL kK c152 kJ c154 kI c156 c157 kH c159 c160 kG c162 kF c164 jV jJ c167 c168 jI jH c171 jG c173 jF c175 jE jD jC jB jU jT c182 c183 jS jR jQ jP jO rD rC rz ry c193 c194 rq c196 rf c198 qZ qY c201 qX c203 qo:Value)(Q n X k i base tb tc j:Nat)(ts:List Tab)(al:List fM)(recs:List Alv)(OA:Option Addr)(oc:Nat)(o:List aF)(M:Nat)(V:World)(hV:fI V base ts Q al i)(hO:fe V base OA oc o M)(hn:al.length=n)(hkl:k<al.length)(hlk:al[k]=⟨some ⟨tb,0,none⟩,tc,recs⟩)(hj:j<recs.length)(q3:V.cell? ⟨X,3,none⟩=some (.int .i64 (k:Int)))(hX:X<V.heap.size)(hi:i≤1000)(KK:Exit→Act→World→Prop)
 (hPP:∀c (d:Nat) v a w,KK (.panic c) (Act.put a (some d) v) w→KK (.panic c) a w)
 (hKK:∀(u68 u69 u70 u71 u72 u73 u74 u75 u76 u77 u78 u79 u80 u81 u82 u83 u84 u85 u86 u87 u88 u89:Value) (wc:World),(∃(al2:List fM) (h2:k<al2.length),fI wc base ts Q al2 i∧fe wc base OA oc o M∧(∀a,al2[k].A=some a→V.heap.size≤a.block)∧rV V Q k wc)→KK .normal ⟨#[c0,c1,c2,c3,c4,.slice (some ⟨Q,0,none⟩) n n,c6,c7,.pointer (some ⟨X,0,none⟩),c9,.int .i64 (j:Int),c11,c12,c13,c14,c15,c16,c17,c18,c19,c20,c21,c22,c23,c24,c25,c26,c27,c28,c29,c30,c31,c32,c33,c34,c35,c36,c37,c38,c39,c40,c41,c42,c43,c44,c45,c46,c47,c48,c49,c50,c51,c52,c53,c54,c55,c56,c57,c58,c59,c60,c61,c62,c63,c64,c65,c66,c67,u68,u69,u70,u71,u72,u73,u74,u75,u76,u77,u78,u79,u80,u81,u82,u83,u84,u85,u86,u87,u88,u89,c90,c91,c92,c93,c94,c95,c96,c97,c98,c99,mo,mi,lu,lq,lh,c105,lg,c107,kZ,c109,kY,kX,kW,kV,mh,mg,c116,c117,mf,c119,ma,l9,l7,l5,c124,lZ,lY,c127,lX,lW,c130,c131,lV,kU,kT,kS,kR,kQ,c138,c139,jX,c141,jW,c143,kP,c145,c146,kN,c148,kM,kL,kK,c152,kJ,c154,kI,c156,c157,kH,c159,c160,kG,c162,kF,c164,jV,jJ,c167,c168,jI,jH,c171,jG,c173,jF,c175,jE,jD,jC,jB,jU,jT,c182,c183,jS,jR,jQ,jP,jO,rD,rC,rz,ry,c193,c194,rq,c196,rf,c198,qZ,qY,c201,qX,c203,qo],[]⟩ wc):
 Code.wp Tryz.prog (nI Tryz.f11 17) KK ⟨#[c0,c1,c2,c3,c4,.slice (some ⟨Q,0,none⟩) n n,c6,c7,.pointer (some ⟨X,0,none⟩),c9,.int .i64 (j:Int),c11,c12,c13,c14,c15,c16,c17,c18,c19,c20,c21,c22,c23,c24,c25,c26,c27,c28,c29,c30,c31,c32,c33,c34,c35,c36,c37,c38,c39,c40,c41,c42,c43,c44,c45,c46,c47,c48,c49,c50,c51,c52,c53,c54,c55,c56,c57,c58,c59,c60,c61,c62,c63,c64,c65,c66,c67,c68,c69,c70,c71,c72,c73,c74,c75,c76,c77,c78,c79,c80,c81,c82,c83,c84,c85,c86,c87,c88,c89,c90,c91,c92,c93,c94,c95,c96,c97,c98,c99,mo,mi,lu,lq,lh,c105,lg,c107,kZ,c109,kY,kX,kW,kV,mh,mg,c116,c117,mf,c119,ma,l9,l7,l5,c124,lZ,lY,c127,lX,lW,c130,c131,lV,kU,kT,kS,kR,kQ,c138,c139,jX,c141,jW,c143,kP,c145,c146,kN,c148,kM,kL,kK,c152,kJ,c154,kI,c156,c157,kH,c159,c160,kG,c162,kF,c164,jV,jJ,c167,c168,jI,jH,c171,jG,c173,jF,c175,jE,jD,jC,jB,jU,jT,c182,c183,jS,jR,jQ,jP,jO,rD,rC,rz,ry,c193,c194,rq,c196,rf,c198,qZ,qY,c201,qX,c203,qo],[]⟩ V:=by
 have HKK:=qh hKK
 have HPP:=qh hPP
 clear hKK hPP
 obtain⟨ia,hia,wI,wH,wG⟩:=info_parts wS
 have HVV:=qh hV
 have HOV:=qh hO
 have HLK:=qh hlk
 have hQ:Q<V.heap.size:=hV.tabs.lt Q rfl
 have hkn:k<n:=by omega
 have hkt:decide (k<n)=true:=by simpa using hkn
 have hro:=hV.recs k hkl
 have g0:=hV.cell hkl
 rw[hlk]at hro g0
 simp only at hro g0
 have nR:=qh (bJ gJ hro.1)
 have hri:=hro.2
 have hcap:=iK hro.1
 have hjc:j≤tc:=by omega
 have OE:j+1≤tc:=by omega
 have hjw:IntKind.i64.wrap ((j:Int)+1)=((j+1:Nat):Int):=by rw[show (j:Int)+1=((j+1:Nat):Int) by omega];exact IntWalk.i64_in _ omA
 have hi1:(j:Int)≤(j:Int)+1:=by omega
 have hi2:(0:Int)≤(j:Int)+1:=by omega
 have hi3:(j:Int)+1≤(recs.length:Int):=by omega
 have mD:Hid (∀(u3:World) (A3:Option Addr) (c3 n3:Nat),Below V.heap.size V u3→n3=(recs.take j++recs.drop (j+1)).length→aB u3 V.heap.size 92 Alv.cells 6 (.slice A3 n3 c3) (recs.take j++recs.drop (j+1))→∃(al2:List fM) (h2:k<al2.length),fI (u3.setCell ⟨Q,k,none⟩ (.slice A3 n3 c3)) base ts Q al2 i∧fe (u3.setCell ⟨Q,k,none⟩ (.slice A3 n3 c3)) base OA oc o M∧(∀a,al2[k].A=some a→V.heap.size≤a.block)∧rV V Q k (u3.setCell ⟨Q,k,none⟩ (.slice A3 n3 c3))):=qh fun u3 A3 c3 n3 hU3 hn3 hown=>by
  obtain⟨cs,hcs⟩:=(HVV.out.below hU3).tabs.typ (q:=Q) rfl
  refine⟨al.set k ⟨A3,c3,recs.take j++recs.drop (j+1)⟩,by simpa using hkl,HVV.out.cut hU3 hkl HLK.out hn3 hown (fun x hx =>?_) (by rw[hn3];simp;omega),(HOV.out.below hU3).store hcs _,fun a ha =>?_,u3,_,hU3,rfl⟩
  ·rcases List.mem_append.1 hx with h|h
   ·exact List.mem_of_mem_take h
   ·exact List.mem_of_mem_drop h
  ·rw[List.getElem_set_self]at ha
   have ha:A3=some a:=ha
   exact hown.row a.block (by rw[ha];rfl)
 clear hV hO hlk hro hn
 conv=>arg 2;whnf
 by_cases hcm:tc=j+1
 ·have hcut:ah V V.heap.size Alv.cells 6 (some ⟨tb,0,none⟩) (recs.drop (j+1)):=by
   rw[List.drop_eq_nil_of_le omA]
   exact ah.nil
  have hcm':=eq_true hcm
  clear hcm
  refine aT (S:=(fun v=>Below V.heap.size V v)) [22] krA (brf.drew) (fun hHeld =>?_)
  refine tkT 0 hHeld ?_ (hQ:=fun c a w h=>HPP.out c _ _ a w h)
  refine tkT 1 hHeld ?_ (hQ:=fun c a w h=>HPP.out c _ _ a w h)
  refine tkT 2 hHeld ?_ (hQ:=fun c a w h=>HPP.out c _ _ a w h) (hy:=by intro v hSv;(try dsimp only at hSv);have h1:=keepW hSv X omA;go_simp;first|done|with_reducible rfl)
  refine tkT 4 hHeld ?_ (hQ:=fun c a w h=>HPP.out c _ _ a w h)
  refine tkT 5 hHeld ?_ (hQ:=fun c a w h=>HPP.out c _ _ a w h)
  refine tkT 6 hHeld ?_ (hQ:=fun c a w h=>HPP.out c _ _ a w h) (hy:=by intro v hSv;(try dsimp only at hSv);have h1:=keepW hSv X omA;go_simp;first|done|with_reducible rfl)
  refine tkT 7 hHeld ?_ (hQ:=fun c a w h=>HPP.out c _ _ a w h)
  refine tkT 8 hHeld ?_ (hQ:=fun c a w h=>HPP.out c _ _ a w h) (hy:=by intro v hSv;(try dsimp only at hSv);have h1:=keepW hSv Q omA;go_simp;first|done|with_reducible rfl)
  refine tkT 9 hHeld ?_ (hQ:=fun c a w h=>HPP.out c _ _ a w h)
  refine tkT 10 hHeld ?_ (hQ:=fun c a w h=>HPP.out c _ _ a w h)
  refine tkT 12 hHeld ?_ (hQ:=fun c a w h=>HPP.out c _ _ a w h)
  refine tkT 13 hHeld ?_ (hQ:=fun c a w h=>HPP.out c _ _ a w h)
  refine tkT 14 hHeld ?_ (hQ:=fun c a w h=>HPP.out c _ _ a w h) (hy:=by intro v hSv;(try dsimp only at hSv);have h1:=keepW hSv X omA;go_simp;first|done|with_reducible rfl)
  refine tkT 15 hHeld ?_ (hQ:=fun c a w h=>HPP.out c _ _ a w h)
  refine tkT 16 hHeld ?_ (hQ:=fun c a w h=>HPP.out c _ _ a w h) (hy:=by intro v hSv;(try dsimp only at hSv);have h1:=keepW hSv Q omA;go_simp;first|done|with_reducible rfl)
  refine tkT 17 hHeld ?_ (hQ:=fun c a w h=>HPP.out c _ _ a w h)
  refine tkT 18 hHeld ?_ (hQ:=fun c a w h=>HPP.out c _ _ a w h)
  refine tkT 19 hHeld ?_ (hQ:=fun c a w h=>HPP.out c _ _ a w h)
  refine au (P:=fun v=>wpT _ _ _ _ _ _ _ _ _ v) (R:=fun v=>Below V.heap.size V v) hHeld ?_
  clear hHeld
  rintro u0 hU0
  have hHeld:=hU0
  have oU:=hU0.size
  refine r1T 3 (fun K hK =>?_)
  go_simp
  refine hK.out _ _ _ (hU0.alloc oU _) (fun hHeld =>?_)
  clear hK K
  refine au (P:=fun v=>wpT _ _ _ _ _ _ _ _ _ v) (R:=fun v=>Below V.heap.size V v∧Blk v u0.heap.size 92 #[]) ⟨hHeld,Blk.new' rfl⟩ ?_
  clear hHeld
  rintro u1 ⟨hU1,hD1⟩
  have hHeld:=hU1
  have uX:=hU1.size
  refine r1T 11 (fun K hK =>?_)
  (refine ak _ rfl (.tmp 71) (.tmp 78) 89 rfl 92 ia _ Alv.cells 6 88 Tryz.underlying89 hia wI wH wG rfl omA gJ lv V.heap.size (.slice (some ⟨u0.heap.size,0,none⟩) 0 0) [] rfl (aB.empty hD1 oU) _ _ _ (recs.take j) rfl smA ((nR.out.take j).next hU1) smA mxA uX ?_;intro v1 u2 hown1 hg1 gz;have hU2:Below V.heap.size V u2:=Below.grown hU1 hg1 uX (aV oU);have sG:=hU2.size)
  refine hK.out _ _ _ hU2 (fun hHeld =>?_)
  clear hK K
  refine r1T 20 (fun K hK =>?_)
  (refine ak _ rfl (.tmp 79) (.tmp 87) 89 rfl 92 ia _ Alv.cells 6 88 Tryz.underlying89 hia wI wH wG rfl omA gJ lv V.heap.size v1 ([]++recs.take j) rfl hown1 _ _ _ (recs.drop (j+1)) rfl spA (hcut.next hU2) smA mxA sG ?_;intro v2 u3 hown2 hg2 oW;have hU3:Below V.heap.size V u3:=Below.grown hU2 hg2 sG hown1.row;have N9:=hU3.size)
  rw[List.nil_append]at hown2
  obtain⟨A3,c3,hv2,_,_⟩:=hown2.form
  obtain⟨n3,hn3⟩:∃n3,n3=(recs.take j++recs.drop (j+1)).length:=⟨_,rfl⟩
  rw[←hn3]at hv2
  subst hv2
  have HN3:=qh hn3
  have uF:=qh hown2
  clear hn3 hown2
  refine hK.out _ _ _ hU3 (fun hHeld =>?_)
  clear hK K
  refine tkT 21 hHeld ?_ (hQ:=fun c a w h=>HPP.out c _ _ a w h)
  have hV3:=HVV.out.below hU3
  have g3:=hV3.cell hkl
  have f3:=hV3.frz (k:=k)
  clear hV3
  refine rzT 22 (fun K hK =>?_)
  go_simp
  refine hK.out _ _ _ ?_
  clear hK K
  refine bf krA ?_ _
  exact HKK.out _ _ _ _ _ _ _ _ _ _ _ _ _ _ _ _ _ _ _ _ _ _ _ (mD.out u3 A3 c3 n3 hU3 HN3.out uF.out)
 ·have hcut:ah V V.heap.size Alv.cells 6 (some ⟨tb,(j+1)*6,none⟩) (recs.drop (j+1)):=by have h:=nR.out.cut (c:=tc) (j+1) omA;rw[if_neg hcm]at h;simpa using h
  refine aT (S:=(fun v=>Below V.heap.size V v)) [22] krA (brf.drew) (fun hHeld =>?_)
  refine tkT 0 hHeld ?_ (hQ:=fun c a w h=>HPP.out c _ _ a w h)
  refine tkT 1 hHeld ?_ (hQ:=fun c a w h=>HPP.out c _ _ a w h)
  refine tkT 2 hHeld ?_ (hQ:=fun c a w h=>HPP.out c _ _ a w h) (hy:=by intro v hSv;(try dsimp only at hSv);have h1:=keepW hSv X omA;go_simp;first|done|with_reducible rfl)
  refine tkT 4 hHeld ?_ (hQ:=fun c a w h=>HPP.out c _ _ a w h)
  refine tkT 5 hHeld ?_ (hQ:=fun c a w h=>HPP.out c _ _ a w h)
  refine tkT 6 hHeld ?_ (hQ:=fun c a w h=>HPP.out c _ _ a w h) (hy:=by intro v hSv;(try dsimp only at hSv);have h1:=keepW hSv X omA;go_simp;first|done|with_reducible rfl)
  refine tkT 7 hHeld ?_ (hQ:=fun c a w h=>HPP.out c _ _ a w h)
  refine tkT 8 hHeld ?_ (hQ:=fun c a w h=>HPP.out c _ _ a w h) (hy:=by intro v hSv;(try dsimp only at hSv);have h1:=keepW hSv Q omA;go_simp;first|done|with_reducible rfl)
  refine tkT 9 hHeld ?_ (hQ:=fun c a w h=>HPP.out c _ _ a w h)
  refine tkT 10 hHeld ?_ (hQ:=fun c a w h=>HPP.out c _ _ a w h)
  refine tkT 12 hHeld ?_ (hQ:=fun c a w h=>HPP.out c _ _ a w h)
  refine tkT 13 hHeld ?_ (hQ:=fun c a w h=>HPP.out c _ _ a w h)
  refine tkT 14 hHeld ?_ (hQ:=fun c a w h=>HPP.out c _ _ a w h) (hy:=by intro v hSv;(try dsimp only at hSv);have h1:=keepW hSv X omA;go_simp;first|done|with_reducible rfl)
  refine tkT 15 hHeld ?_ (hQ:=fun c a w h=>HPP.out c _ _ a w h)
  refine tkT 16 hHeld ?_ (hQ:=fun c a w h=>HPP.out c _ _ a w h) (hy:=by intro v hSv;(try dsimp only at hSv);have h1:=keepW hSv Q omA;go_simp;first|done|with_reducible rfl)
  refine tkT 17 hHeld ?_ (hQ:=fun c a w h=>HPP.out c _ _ a w h)
  refine tkT 18 hHeld ?_ (hQ:=fun c a w h=>HPP.out c _ _ a w h)
  refine tkT 19 hHeld ?_ (hQ:=fun c a w h=>HPP.out c _ _ a w h)
  refine au (P:=fun v=>wpT _ _ _ _ _ _ _ _ _ v) (R:=fun v=>Below V.heap.size V v) hHeld ?_
  clear hHeld
  rintro u0 hU0
  have hHeld:=hU0
  have oU:=hU0.size
  refine r1T 3 (fun K hK =>?_)
  go_simp
  refine hK.out _ _ _ (hU0.alloc oU _) (fun hHeld =>?_)
  clear hK K
  refine au (P:=fun v=>wpT _ _ _ _ _ _ _ _ _ v) (R:=fun v=>Below V.heap.size V v∧Blk v u0.heap.size 92 #[]) ⟨hHeld,Blk.new' rfl⟩ ?_
  clear hHeld
  rintro u1 ⟨hU1,hD1⟩
  have hHeld:=hU1
  have uX:=hU1.size
  refine r1T 11 (fun K hK =>?_)
  (refine ak _ rfl (.tmp 71) (.tmp 78) 89 rfl 92 ia _ Alv.cells 6 88 Tryz.underlying89 hia wI wH wG rfl omA gJ lv V.heap.size (.slice (some ⟨u0.heap.size,0,none⟩) 0 0) [] rfl (aB.empty hD1 oU) _ _ _ (recs.take j) rfl smA ((nR.out.take j).next hU1) smA mxA uX ?_;intro v1 u2 hown1 hg1 gz;have hU2:Below V.heap.size V u2:=Below.grown hU1 hg1 uX (aV oU);have sG:=hU2.size)
  refine hK.out _ _ _ hU2 (fun hHeld =>?_)
  clear hK K
  refine r1T 20 (fun K hK =>?_)
  (refine ak _ rfl (.tmp 79) (.tmp 87) 89 rfl 92 ia _ Alv.cells 6 88 Tryz.underlying89 hia wI wH wG rfl omA gJ lv V.heap.size v1 ([]++recs.take j) rfl hown1 _ _ _ (recs.drop (j+1)) rfl spA (hcut.next hU2) smA mxA sG ?_;intro v2 u3 hown2 hg2 oW;have hU3:Below V.heap.size V u3:=Below.grown hU2 hg2 sG hown1.row;have N9:=hU3.size)
  rw[List.nil_append]at hown2
  obtain⟨A3,c3,hv2,_,_⟩:=hown2.form
  obtain⟨n3,hn3⟩:∃n3,n3=(recs.take j++recs.drop (j+1)).length:=⟨_,rfl⟩
  rw[←hn3]at hv2
  subst hv2
  have HN3:=qh hn3
  have uF:=qh hown2
  clear hn3 hown2
  refine hK.out _ _ _ hU3 (fun hHeld =>?_)
  clear hK K
  refine tkT 21 hHeld ?_ (hQ:=fun c a w h=>HPP.out c _ _ a w h)
  have hV3:=HVV.out.below hU3
  have g3:=hV3.cell hkl
  have f3:=hV3.frz (k:=k)
  clear hV3
  refine rzT 22 (fun K hK =>?_)
  go_simp
  refine hK.out _ _ _ ?_
  clear hK K
  refine bf krA ?_ _
  exact HKK.out _ _ _ _ _ _ _ _ _ _ _ _ _ _ _ _ _ _ _ _ _ _ _ (mD.out u3 A3 c3 n3 hU3 HN3.out uF.out)
theorem NI(c0 c1 c2 c3 c4 c6 c7 c9 c11 c12 c13 c14 c15 c16 c17 c18 c19 c20 c21 c22 c23 c24 c25 c26 c27 c28 c29 c30 c31 c32 c33 c34 c35 c36 c37 c38 c39 c40 c41 c42 c43 c44 c45 c46 c47 c48 c49 c50 c51 c52 c53 c54 c55 c56 c57 c58 c59 c60 c61 c62 c63 c64 c65 c66 c67 c68 c69 c70 c71 c72 c73 c74 c75 c76 c77 c78 c79 c80 c81 c82 c83 c84 c85 c86 c87 c88 c89 c90 c91 c92 c93 c94 c95 c96 c97 c98 c99 mo mi lu lq lh c105 lg c107 kZ c109 kY kX kW kV mh mg c116 c117 mf c119 ma l9 l7 l5 c124 lZ lY c127 lX lW c130 c131 lV kU kT kS kR kQ c138 c139 jX c141 jW c143 kP c145 c146 kN c148 kM kL kK c152 kJ c154 kI c156 c157 kH c159 c160 kG c162 kF c164 jV jJ c167 c168 jI jH c171 jG c173 jF c175 jE jD jC jB jU jT c182 c183 jS jR jQ jP jO rD rC rz ry c193 c194 rq c196 rf c198 qZ qY c201 qX c203 qo:Value)(Q n X k i base tb tc j:Nat)(ts:List Tab)(al:List fM)(recs:List Alv)(OA:Option Addr)(oc:Nat)(o:List aF)(M:Nat)(V:World)(hV:fI V base ts Q al i)(hO:fe V base OA oc o M)(hn:al.length=n)(hkl:k<al.length)(hlk:al[k]=⟨some ⟨tb,0,none⟩,tc,recs⟩)(hj:j<recs.length)(q3:V.cell? ⟨X,3,none⟩=some (.int .i64 (k:Int)))(hX:X<V.heap.size)(hi:i≤1000)(KK:Exit→Act→World→Prop)
 (hPP:∀c (d:Nat) v a w,KK (.panic c) (Act.put a (some d) v) w→KK (.panic c) a w)
 (hKK:∀(GU GR GQ GN GM GL GK GJ u152 GI u154 GH GG GD GA Gz Gy Gx u162 Gw u164 Qg:Value) (wc:World),(∃(al2:List fM) (h2:k<al2.length),fI wc base ts Q al2 i∧fe wc base OA oc o M∧(∀a,al2[k].A=some a→V.heap.size≤a.block)∧rV V Q k wc)→KK .normal ⟨#[c0,c1,c2,c3,c4,.slice (some ⟨Q,0,none⟩) n n,c6,c7,.pointer (some ⟨X,0,none⟩),c9,.int .i64 (j:Int),c11,c12,c13,c14,c15,c16,c17,c18,c19,c20,c21,c22,c23,c24,c25,c26,c27,c28,c29,c30,c31,c32,c33,c34,c35,c36,c37,c38,c39,c40,c41,c42,c43,c44,c45,c46,c47,c48,c49,c50,c51,c52,c53,c54,c55,c56,c57,c58,c59,c60,c61,c62,c63,c64,c65,c66,c67,c68,c69,c70,c71,c72,c73,c74,c75,c76,c77,c78,c79,c80,c81,c82,c83,c84,c85,c86,c87,c88,c89,c90,c91,c92,c93,c94,c95,c96,c97,c98,c99,mo,mi,lu,lq,lh,c105,lg,c107,kZ,c109,kY,kX,kW,kV,mh,mg,c116,c117,mf,c119,ma,l9,l7,l5,c124,lZ,lY,c127,lX,lW,c130,c131,lV,kU,kT,kS,kR,kQ,c138,c139,jX,c141,jW,c143,GU,GR,GQ,GN,GM,GL,GK,GJ,u152,GI,u154,GH,GG,GD,GA,Gz,Gy,Gx,u162,Gw,u164,Qg,jJ,c167,c168,jI,jH,c171,jG,c173,jF,c175,jE,jD,jC,jB,jU,jT,c182,c183,jS,jR,jQ,jP,jO,rD,rC,rz,ry,c193,c194,rq,c196,rf,c198,qZ,qY,c201,qX,c203,qo],[]⟩ wc):
 Code.wp Tryz.prog (nI Tryz.f11 26) KK ⟨#[c0,c1,c2,c3,c4,.slice (some ⟨Q,0,none⟩) n n,c6,c7,.pointer (some ⟨X,0,none⟩),c9,.int .i64 (j:Int),c11,c12,c13,c14,c15,c16,c17,c18,c19,c20,c21,c22,c23,c24,c25,c26,c27,c28,c29,c30,c31,c32,c33,c34,c35,c36,c37,c38,c39,c40,c41,c42,c43,c44,c45,c46,c47,c48,c49,c50,c51,c52,c53,c54,c55,c56,c57,c58,c59,c60,c61,c62,c63,c64,c65,c66,c67,c68,c69,c70,c71,c72,c73,c74,c75,c76,c77,c78,c79,c80,c81,c82,c83,c84,c85,c86,c87,c88,c89,c90,c91,c92,c93,c94,c95,c96,c97,c98,c99,mo,mi,lu,lq,lh,c105,lg,c107,kZ,c109,kY,kX,kW,kV,mh,mg,c116,c117,mf,c119,ma,l9,l7,l5,c124,lZ,lY,c127,lX,lW,c130,c131,lV,kU,kT,kS,kR,kQ,c138,c139,jX,c141,jW,c143,kP,c145,c146,kN,c148,kM,kL,kK,c152,kJ,c154,kI,c156,c157,kH,c159,c160,kG,c162,kF,c164,jV,jJ,c167,c168,jI,jH,c171,jG,c173,jF,c175,jE,jD,jC,jB,jU,jT,c182,c183,jS,jR,jQ,jP,jO,rD,rC,rz,ry,c193,c194,rq,c196,rf,c198,qZ,qY,c201,qX,c203,qo],[]⟩ V:=by
 have HKK:=qh hKK
 have HPP:=qh hPP
 clear hKK hPP
 obtain⟨ia,hia,wI,wH,wG⟩:=info_parts wS
 have HVV:=qh hV
 have HOV:=qh hO
 have HLK:=qh hlk
 have hQ:Q<V.heap.size:=hV.tabs.lt Q rfl
 have hkn:k<n:=by omega
 have hkt:decide (k<n)=true:=by simpa using hkn
 have hro:=hV.recs k hkl
 have g0:=hV.cell hkl
 rw[hlk]at hro g0
 simp only at hro g0
 have nR:=qh (bJ gJ hro.1)
 have hri:=hro.2
 have hcap:=iK hro.1
 have hjc:j≤tc:=by omega
 have OE:j+1≤tc:=by omega
 have hjw:IntKind.i64.wrap ((j:Int)+1)=((j+1:Nat):Int):=by rw[show (j:Int)+1=((j+1:Nat):Int) by omega];exact IntWalk.i64_in _ omA
 have hi1:(j:Int)≤(j:Int)+1:=by omega
 have hi2:(0:Int)≤(j:Int)+1:=by omega
 have hi3:(j:Int)+1≤(recs.length:Int):=by omega
 have mD:Hid (∀(u3:World) (A3:Option Addr) (c3 n3:Nat),Below V.heap.size V u3→n3=(recs.take j++recs.drop (j+1)).length→aB u3 V.heap.size 92 Alv.cells 6 (.slice A3 n3 c3) (recs.take j++recs.drop (j+1))→∃(al2:List fM) (h2:k<al2.length),fI (u3.setCell ⟨Q,k,none⟩ (.slice A3 n3 c3)) base ts Q al2 i∧fe (u3.setCell ⟨Q,k,none⟩ (.slice A3 n3 c3)) base OA oc o M∧(∀a,al2[k].A=some a→V.heap.size≤a.block)∧rV V Q k (u3.setCell ⟨Q,k,none⟩ (.slice A3 n3 c3))):=qh fun u3 A3 c3 n3 hU3 hn3 hown=>by
  obtain⟨cs,hcs⟩:=(HVV.out.below hU3).tabs.typ (q:=Q) rfl
  refine⟨al.set k ⟨A3,c3,recs.take j++recs.drop (j+1)⟩,by simpa using hkl,HVV.out.cut hU3 hkl HLK.out hn3 hown (fun x hx =>?_) (by rw[hn3];simp;omega),(HOV.out.below hU3).store hcs _,fun a ha =>?_,u3,_,hU3,rfl⟩
  ·rcases List.mem_append.1 hx with h|h
   ·exact List.mem_of_mem_take h
   ·exact List.mem_of_mem_drop h
  ·rw[List.getElem_set_self]at ha
   have ha:A3=some a:=ha
   exact hown.row a.block (by rw[ha];rfl)
 clear hV hO hlk hro hn
 conv=>arg 2;whnf
 by_cases hcm:tc=j+1
 ·have hcut:ah V V.heap.size Alv.cells 6 (some ⟨tb,0,none⟩) (recs.drop (j+1)):=by
   rw[List.drop_eq_nil_of_le omA]
   exact ah.nil
  have hcm':=eq_true hcm
  clear hcm
  refine aT (S:=(fun v=>Below V.heap.size V v)) [22] krA (brf.drew) (fun hHeld =>?_)
  refine tkT 0 hHeld ?_ (hQ:=fun c a w h=>HPP.out c _ _ a w h)
  refine tkT 1 hHeld ?_ (hQ:=fun c a w h=>HPP.out c _ _ a w h)
  refine tkT 2 hHeld ?_ (hQ:=fun c a w h=>HPP.out c _ _ a w h) (hy:=by intro v hSv;(try dsimp only at hSv);have h1:=keepW hSv X omA;go_simp;first|done|with_reducible rfl)
  refine tkT 4 hHeld ?_ (hQ:=fun c a w h=>HPP.out c _ _ a w h)
  refine tkT 5 hHeld ?_ (hQ:=fun c a w h=>HPP.out c _ _ a w h)
  refine tkT 6 hHeld ?_ (hQ:=fun c a w h=>HPP.out c _ _ a w h) (hy:=by intro v hSv;(try dsimp only at hSv);have h1:=keepW hSv X omA;go_simp;first|done|with_reducible rfl)
  refine tkT 7 hHeld ?_ (hQ:=fun c a w h=>HPP.out c _ _ a w h)
  refine tkT 8 hHeld ?_ (hQ:=fun c a w h=>HPP.out c _ _ a w h) (hy:=by intro v hSv;(try dsimp only at hSv);have h1:=keepW hSv Q omA;go_simp;first|done|with_reducible rfl)
  refine tkT 9 hHeld ?_ (hQ:=fun c a w h=>HPP.out c _ _ a w h)
  refine tkT 10 hHeld ?_ (hQ:=fun c a w h=>HPP.out c _ _ a w h)
  refine tkT 12 hHeld ?_ (hQ:=fun c a w h=>HPP.out c _ _ a w h)
  refine tkT 13 hHeld ?_ (hQ:=fun c a w h=>HPP.out c _ _ a w h)
  refine tkT 14 hHeld ?_ (hQ:=fun c a w h=>HPP.out c _ _ a w h) (hy:=by intro v hSv;(try dsimp only at hSv);have h1:=keepW hSv X omA;go_simp;first|done|with_reducible rfl)
  refine tkT 15 hHeld ?_ (hQ:=fun c a w h=>HPP.out c _ _ a w h)
  refine tkT 16 hHeld ?_ (hQ:=fun c a w h=>HPP.out c _ _ a w h) (hy:=by intro v hSv;(try dsimp only at hSv);have h1:=keepW hSv Q omA;go_simp;first|done|with_reducible rfl)
  refine tkT 17 hHeld ?_ (hQ:=fun c a w h=>HPP.out c _ _ a w h)
  refine tkT 18 hHeld ?_ (hQ:=fun c a w h=>HPP.out c _ _ a w h)
  refine tkT 19 hHeld ?_ (hQ:=fun c a w h=>HPP.out c _ _ a w h)
  refine au (P:=fun v=>wpT _ _ _ _ _ _ _ _ _ v) (R:=fun v=>Below V.heap.size V v) hHeld ?_
  clear hHeld
  rintro u0 hU0
  have hHeld:=hU0
  have oU:=hU0.size
  refine r1T 3 (fun K hK =>?_)
  go_simp
  refine hK.out _ _ _ (hU0.alloc oU _) (fun hHeld =>?_)
  clear hK K
  refine au (P:=fun v=>wpT _ _ _ _ _ _ _ _ _ v) (R:=fun v=>Below V.heap.size V v∧Blk v u0.heap.size 92 #[]) ⟨hHeld,Blk.new' rfl⟩ ?_
  clear hHeld
  rintro u1 ⟨hU1,hD1⟩
  have hHeld:=hU1
  have uX:=hU1.size
  refine r1T 11 (fun K hK =>?_)
  (refine ak _ rfl (.tmp 147) (.tmp 154) 89 rfl 92 ia _ Alv.cells 6 88 Tryz.underlying89 hia wI wH wG rfl omA gJ lv V.heap.size (.slice (some ⟨u0.heap.size,0,none⟩) 0 0) [] rfl (aB.empty hD1 oU) _ _ _ (recs.take j) rfl smA ((nR.out.take j).next hU1) smA mxA uX ?_;intro v1 u2 hown1 hg1 gz;have hU2:Below V.heap.size V u2:=Below.grown hU1 hg1 uX (aV oU);have sG:=hU2.size)
  refine hK.out _ _ _ hU2 (fun hHeld =>?_)
  clear hK K
  refine r1T 20 (fun K hK =>?_)
  (refine ak _ rfl (.tmp 155) (.tmp 163) 89 rfl 92 ia _ Alv.cells 6 88 Tryz.underlying89 hia wI wH wG rfl omA gJ lv V.heap.size v1 ([]++recs.take j) rfl hown1 _ _ _ (recs.drop (j+1)) rfl spA (hcut.next hU2) smA mxA sG ?_;intro v2 u3 hown2 hg2 oW;have hU3:Below V.heap.size V u3:=Below.grown hU2 hg2 sG hown1.row;have N9:=hU3.size)
  rw[List.nil_append]at hown2
  obtain⟨A3,c3,hv2,_,_⟩:=hown2.form
  obtain⟨n3,hn3⟩:∃n3,n3=(recs.take j++recs.drop (j+1)).length:=⟨_,rfl⟩
  rw[←hn3]at hv2
  subst hv2
  have HN3:=qh hn3
  have uF:=qh hown2
  clear hn3 hown2
  refine hK.out _ _ _ hU3 (fun hHeld =>?_)
  clear hK K
  refine tkT 21 hHeld ?_ (hQ:=fun c a w h=>HPP.out c _ _ a w h)
  have hV3:=HVV.out.below hU3
  have g3:=hV3.cell hkl
  have f3:=hV3.frz (k:=k)
  clear hV3
  refine rzT 22 (fun K hK =>?_)
  go_simp
  refine hK.out _ _ _ ?_
  clear hK K
  refine bf krA ?_ _
  exact HKK.out _ _ _ _ _ _ _ _ _ _ _ _ _ _ _ _ _ _ _ _ _ _ _ (mD.out u3 A3 c3 n3 hU3 HN3.out uF.out)
 ·have hcut:ah V V.heap.size Alv.cells 6 (some ⟨tb,(j+1)*6,none⟩) (recs.drop (j+1)):=by have h:=nR.out.cut (c:=tc) (j+1) omA;rw[if_neg hcm]at h;simpa using h
  refine aT (S:=(fun v=>Below V.heap.size V v)) [22] krA (brf.drew) (fun hHeld =>?_)
  refine tkT 0 hHeld ?_ (hQ:=fun c a w h=>HPP.out c _ _ a w h)
  refine tkT 1 hHeld ?_ (hQ:=fun c a w h=>HPP.out c _ _ a w h)
  refine tkT 2 hHeld ?_ (hQ:=fun c a w h=>HPP.out c _ _ a w h) (hy:=by intro v hSv;(try dsimp only at hSv);have h1:=keepW hSv X omA;go_simp;first|done|with_reducible rfl)
  refine tkT 4 hHeld ?_ (hQ:=fun c a w h=>HPP.out c _ _ a w h)
  refine tkT 5 hHeld ?_ (hQ:=fun c a w h=>HPP.out c _ _ a w h)
  refine tkT 6 hHeld ?_ (hQ:=fun c a w h=>HPP.out c _ _ a w h) (hy:=by intro v hSv;(try dsimp only at hSv);have h1:=keepW hSv X omA;go_simp;first|done|with_reducible rfl)
  refine tkT 7 hHeld ?_ (hQ:=fun c a w h=>HPP.out c _ _ a w h)
  refine tkT 8 hHeld ?_ (hQ:=fun c a w h=>HPP.out c _ _ a w h) (hy:=by intro v hSv;(try dsimp only at hSv);have h1:=keepW hSv Q omA;go_simp;first|done|with_reducible rfl)
  refine tkT 9 hHeld ?_ (hQ:=fun c a w h=>HPP.out c _ _ a w h)
  refine tkT 10 hHeld ?_ (hQ:=fun c a w h=>HPP.out c _ _ a w h)
  refine tkT 12 hHeld ?_ (hQ:=fun c a w h=>HPP.out c _ _ a w h)
  refine tkT 13 hHeld ?_ (hQ:=fun c a w h=>HPP.out c _ _ a w h)
  refine tkT 14 hHeld ?_ (hQ:=fun c a w h=>HPP.out c _ _ a w h) (hy:=by intro v hSv;(try dsimp only at hSv);have h1:=keepW hSv X omA;go_simp;first|done|with_reducible rfl)
  refine tkT 15 hHeld ?_ (hQ:=fun c a w h=>HPP.out c _ _ a w h)
  refine tkT 16 hHeld ?_ (hQ:=fun c a w h=>HPP.out c _ _ a w h) (hy:=by intro v hSv;(try dsimp only at hSv);have h1:=keepW hSv Q omA;go_simp;first|done|with_reducible rfl)
  refine tkT 17 hHeld ?_ (hQ:=fun c a w h=>HPP.out c _ _ a w h)
  refine tkT 18 hHeld ?_ (hQ:=fun c a w h=>HPP.out c _ _ a w h)
  refine tkT 19 hHeld ?_ (hQ:=fun c a w h=>HPP.out c _ _ a w h)
  refine au (P:=fun v=>wpT _ _ _ _ _ _ _ _ _ v) (R:=fun v=>Below V.heap.size V v) hHeld ?_
  clear hHeld
  rintro u0 hU0
  have hHeld:=hU0
  have oU:=hU0.size
  refine r1T 3 (fun K hK =>?_)
  go_simp
  refine hK.out _ _ _ (hU0.alloc oU _) (fun hHeld =>?_)
  clear hK K
  refine au (P:=fun v=>wpT _ _ _ _ _ _ _ _ _ v) (R:=fun v=>Below V.heap.size V v∧Blk v u0.heap.size 92 #[]) ⟨hHeld,Blk.new' rfl⟩ ?_
  clear hHeld
  rintro u1 ⟨hU1,hD1⟩
  have hHeld:=hU1
  have uX:=hU1.size
  refine r1T 11 (fun K hK =>?_)
  (refine ak _ rfl (.tmp 147) (.tmp 154) 89 rfl 92 ia _ Alv.cells 6 88 Tryz.underlying89 hia wI wH wG rfl omA gJ lv V.heap.size (.slice (some ⟨u0.heap.size,0,none⟩) 0 0) [] rfl (aB.empty hD1 oU) _ _ _ (recs.take j) rfl smA ((nR.out.take j).next hU1) smA mxA uX ?_;intro v1 u2 hown1 hg1 gz;have hU2:Below V.heap.size V u2:=Below.grown hU1 hg1 uX (aV oU);have sG:=hU2.size)
  refine hK.out _ _ _ hU2 (fun hHeld =>?_)
  clear hK K
  refine r1T 20 (fun K hK =>?_)
  (refine ak _ rfl (.tmp 155) (.tmp 163) 89 rfl 92 ia _ Alv.cells 6 88 Tryz.underlying89 hia wI wH wG rfl omA gJ lv V.heap.size v1 ([]++recs.take j) rfl hown1 _ _ _ (recs.drop (j+1)) rfl spA (hcut.next hU2) smA mxA sG ?_;intro v2 u3 hown2 hg2 oW;have hU3:Below V.heap.size V u3:=Below.grown hU2 hg2 sG hown1.row;have N9:=hU3.size)
  rw[List.nil_append]at hown2
  obtain⟨A3,c3,hv2,_,_⟩:=hown2.form
  obtain⟨n3,hn3⟩:∃n3,n3=(recs.take j++recs.drop (j+1)).length:=⟨_,rfl⟩
  rw[←hn3]at hv2
  subst hv2
  have HN3:=qh hn3
  have uF:=qh hown2
  clear hn3 hown2
  refine hK.out _ _ _ hU3 (fun hHeld =>?_)
  clear hK K
  refine tkT 21 hHeld ?_ (hQ:=fun c a w h=>HPP.out c _ _ a w h)
  have hV3:=HVV.out.below hU3
  have g3:=hV3.cell hkl
  have f3:=hV3.frz (k:=k)
  clear hV3
  refine rzT 22 (fun K hK =>?_)
  go_simp
  refine hK.out _ _ _ ?_
  clear hK K
  refine bf krA ?_ _
  exact HKK.out _ _ _ _ _ _ _ _ _ _ _ _ _ _ _ _ _ _ _ _ _ _ _ (mD.out u3 A3 c3 n3 hU3 HN3.out uF.out)
theorem NK(c0 c1 c2 c3 c4 c6 c7 c9 c10 c12 c13 c14 c15 c16 c17 c18 c19 c20 c21 c22 c23 c24 c25 c26 c27 c28 c29 c30 c31 c32 c33 c34 c35 c36 c37 c38 c39 c40 c41 c42 c43 c44 c45 c46 c47 c48 c49 c50 c51 c52 c53 c54 c55 c56 c57 c58 c59 c60 c61 c62 c63 c64 c65 c66 c67 c68 c69 c70 c71 c72 c73 c74 c75 c76 c77 c78 c79 c80 c81 c82 c83 c84 c85 c86 c87 c88 c89 c90 c91 c92 c93 c94 c95 c96 c97 c98 c99 mo mi lu lq lh c105 lg c107 kZ c109 kY kX kW kV mh mg c116 c117 mf c119 ma l9 l7 l5 c124 lZ lY c127 lX lW c130 c131 lV kU kT kS kR kQ c138 c139 jX c141 jW c143 kP c145 c146 kN c148 kM kL kK c152 kJ c154 kI c156 c157 kH c159 c160 kG c162 kF c164 jV jJ c167 c168 jI jH c171 jG c173 jF c175 jE jD jC jB jU jT c182 c183 jS jR jQ jP jO rD rC rz ry c193 c194 rq c196 rf c198 qZ qY c201 qX c203 qo:Value)(Q n X Y k i base:Nat)(ts:List Tab)(al:List fM)(TA2:Option Addr)(tc2:Nat)(nK:List Alv)(xk xn:Int)(xt:ByteArray)(xs:Int)(xA:Option Addr)(xc:Nat)(xo:List Ident)(xB:Option Addr)(xbc:Nat)(xby:List (Option Addr × Nat × List Ident))(OA:Option Addr)(oc:Nat)(o:List aF)(M:Nat)(cs:Array Value)(U3:World)(hV2:fI U3 base ts Q al i)(hO2:fe U3 base OA oc o M)(hn:al.length=n)(hk2:k<al.length)(hlk2:al[k]=⟨TA2,tc2,nK⟩)(hX2:Blk U3 X 64 cs)(q3:U3.cell? ⟨X,3,none⟩=some (.int .i64 (k:Int)))(hR2:Blk U3 Y 92 #[.int .i64 xk,.int .i64 xn,.string xt,.int .i64 xs,.slice xA xo.length xc,.slice xB xby.length xbc])(hA2:dh U3 base (dB ts (k:Int)).length (8 ^ (k+1)) ⟨⟨xk,xn,xt⟩,xs,xA,xc,xo,xB,xbc,xby⟩)(hne2:∀a,TA2=some a→a.block≠Y)(hXQ:X≠Q)(hYQ:Y≠Q)(hi:i≤1000)(KK:Exit→Act→World→Prop)
 (hPP:∀c (d:Nat) v a w,KK (.panic c) (Act.put a (some d) v) w→KK (.panic c) a w)
 (hKK:∀(u90 u91 u92 u93 u94 u95 u96 u97 u98 u99 CK CJ:Value) (wc:World),((∃al2:List fM,fI wc base ts Q al2 (i+1))∧fe wc base OA oc o M∧Blk wc X 64 cs∧Blk wc Y 92 #[.int .i64 xk,.int .i64 xn,.string xt,.int .i64 xs,.slice xA xo.length xc,.slice xB xby.length xbc]∧dh wc base (dB ts (k:Int)).length (8 ^ (k+1)) ⟨⟨xk,xn,xt⟩,xs,xA,xc,xo,xB,xbc,xby⟩∧(∀V0:World,Below base V0 U3→base≤Q→Below base V0 wc))→KK .normal ⟨#[c0,c1,c2,c3,c4,.slice (some ⟨Q,0,none⟩) n n,c6,c7,.pointer (some ⟨X,0,none⟩),c9,c10,.pointer (some ⟨Y,0,none⟩),c12,c13,c14,c15,c16,c17,c18,c19,c20,c21,c22,c23,c24,c25,c26,c27,c28,c29,c30,c31,c32,c33,c34,c35,c36,c37,c38,c39,c40,c41,c42,c43,c44,c45,c46,c47,c48,c49,c50,c51,c52,c53,c54,c55,c56,c57,c58,c59,c60,c61,c62,c63,c64,c65,c66,c67,c68,c69,c70,c71,c72,c73,c74,c75,c76,c77,c78,c79,c80,c81,c82,c83,c84,c85,c86,c87,c88,c89,u90,u91,u92,u93,u94,u95,u96,u97,u98,u99,CK,CJ,lu,lq,lh,c105,lg,c107,kZ,c109,kY,kX,kW,kV,mh,mg,c116,c117,mf,c119,ma,l9,l7,l5,c124,lZ,lY,c127,lX,lW,c130,c131,lV,kU,kT,kS,kR,kQ,c138,c139,jX,c141,jW,c143,kP,c145,c146,kN,c148,kM,kL,kK,c152,kJ,c154,kI,c156,c157,kH,c159,c160,kG,c162,kF,c164,jV,jJ,c167,c168,jI,jH,c171,jG,c173,jF,c175,jE,jD,jC,jB,jU,jT,c182,c183,jS,jR,jQ,jP,jO,rD,rC,rz,ry,c193,c194,rq,c196,rf,c198,qZ,qY,c201,qX,c203,qo],[]⟩ wc):
 Code.wp Tryz.prog (nI Tryz.f11 18) KK ⟨#[c0,c1,c2,c3,c4,.slice (some ⟨Q,0,none⟩) n n,c6,c7,.pointer (some ⟨X,0,none⟩),c9,c10,.pointer (some ⟨Y,0,none⟩),c12,c13,c14,c15,c16,c17,c18,c19,c20,c21,c22,c23,c24,c25,c26,c27,c28,c29,c30,c31,c32,c33,c34,c35,c36,c37,c38,c39,c40,c41,c42,c43,c44,c45,c46,c47,c48,c49,c50,c51,c52,c53,c54,c55,c56,c57,c58,c59,c60,c61,c62,c63,c64,c65,c66,c67,c68,c69,c70,c71,c72,c73,c74,c75,c76,c77,c78,c79,c80,c81,c82,c83,c84,c85,c86,c87,c88,c89,c90,c91,c92,c93,c94,c95,c96,c97,c98,c99,mo,mi,lu,lq,lh,c105,lg,c107,kZ,c109,kY,kX,kW,kV,mh,mg,c116,c117,mf,c119,ma,l9,l7,l5,c124,lZ,lY,c127,lX,lW,c130,c131,lV,kU,kT,kS,kR,kQ,c138,c139,jX,c141,jW,c143,kP,c145,c146,kN,c148,kM,kL,kK,c152,kJ,c154,kI,c156,c157,kH,c159,c160,kG,c162,kF,c164,jV,jJ,c167,c168,jI,jH,c171,jG,c173,jF,c175,jE,jD,jC,jB,jU,jT,c182,c183,jS,jR,jQ,jP,jO,rD,rC,rz,ry,c193,c194,rq,c196,rf,c198,qZ,qY,c201,qX,c203,qo],[]⟩ U3:=by
 have HKK:=qh hKK
 have HPP:=qh hPP
 clear hKK hPP
 obtain⟨ia,hia,wI,wH,wG⟩:=info_parts wS
 have hQ:Q<U3.heap.size:=hV2.tabs.lt Q rfl
 have hkn:k<n:=by omega
 have hkt:decide (k<n)=true:=by simpa using hkn
 have hb3:=hV2.Ao
 have UJ:=hX2.lt
 have UU:=hR2.lt
 have g0:=hV2.cell hk2
 have Fv:=hV2.recs k hk2
 rw[hlk2]at g0 Fv
 simp only at g0 Fv
 have Na:=qh hlk2
 have Ef:=qh Fv.1
 have Wh:=Fv.2
 have Oy:some X≠(Value.slice TA2 nK.length tc2).ownBlock:=fun e=>Fv.1.bP hX2 (by decide) _ e.symm rfl
 have Ra:some Q≠(Value.slice TA2 nK.length tc2).ownBlock:=hV2.tabs.dH Fv.1 Az.symm Q rfl
 have Q9:some Y≠(Value.slice TA2 nK.length tc2).ownBlock:=fun e=>by
  cases TA2 with
  | none=>simp[Value.ownBlock]at e
  | some a=>exact hne2 a rfl (by simpa[Value.ownBlock]using e.symm)
 have HV2:=qh hV2
 have HO2:=qh hO2
 have HX2:=qh hX2
 have HR2:=qh hR2
 have HA2:=qh hA2
 have y0:=hR2.cell 0
 have y1:=hR2.cell 1
 have y2:=hR2.cell 2
 have y3:=hR2.cell 3
 have y4:=hR2.cell 4
 have y5:=hR2.cell 5
 simp only[gE3]at y0 y1 y2 y3 y4 y5
 clear hV2 hO2 hX2 hR2 hA2 hlk2 Fv hne2 hn
 conv=>arg 2;whnf
 refine aT (S:=(fun v=>U3.grownBy v (Value.slice TA2 nK.length tc2).ownBlock)) [12] krA (ay _ brf.drew) (fun hHeld =>?_)
 refine tkT 0 hHeld ?_ (hQ:=fun c a w h=>HPP.out c _ _ a w h)
 refine tkT 1 hHeld ?_ (hQ:=fun c a w h=>HPP.out c _ _ a w h)
 refine tkT 2 hHeld ?_ (hQ:=fun c a w h=>HPP.out c _ _ a w h) (hy:=by intro v hSv;(try dsimp only at hSv);have h1:=Gb hSv X omA Oy;go_simp;first|done|with_reducible rfl)
 refine tkT 3 hHeld ?_ (hQ:=fun c a w h=>HPP.out c _ _ a w h)
 refine tkT 4 hHeld ?_ (hQ:=fun c a w h=>HPP.out c _ _ a w h)
 refine tkT 5 hHeld ?_ (hQ:=fun c a w h=>HPP.out c _ _ a w h) (hy:=by intro v hSv;(try dsimp only at hSv);have h1:=Gb hSv X omA Oy;go_simp;first|done|with_reducible rfl)
 refine tkT 6 hHeld ?_ (hQ:=fun c a w h=>HPP.out c _ _ a w h)
 refine tkT 7 hHeld ?_ (hQ:=fun c a w h=>HPP.out c _ _ a w h) (hy:=by intro v hSv;(try dsimp only at hSv);have h1:=Gb hSv Q omA Ra;go_simp;first|done|with_reducible rfl)
 refine tkT 8 hHeld ?_ (hQ:=fun c a w h=>HPP.out c _ _ a w h) (hy:=by intro v hSv;(try dsimp only at hSv);have h1:=Gb hSv Y omA Q9;go_simp;first|done|with_reducible rfl)
 refine au (P:=fun v=>wpT _ _ _ _ _ _ _ _ _ v) (R:=fun v=>Below U3.heap.size U3 v) brf.drew ?_
 clear hHeld
 rintro u0 hU0
 have hHeld:U3.grownBy u0 (Value.slice TA2 nK.length tc2).ownBlock:=ay _ hU0
 have oU:=hU0.size
 refine r1T 9 (fun K hK =>?_)
 go_simp
 refine hK.out _ _ _ (ay _ (hU0.alloc oU _)) (fun hHeld =>?_)
 clear hK K
 refine au (P:=fun v=>wpT _ _ _ _ _ _ _ _ _ v) (R:=fun v=>Below U3.heap.size U3 v∧Blk v u0.heap.size 92 #[.int .i64 xk,.int .i64 xn,.string xt,.int .i64 xs,.slice xA xo.length xc,.slice xB xby.length xbc]) ⟨hU0.alloc oU _,Blk.new' rfl⟩ ?_
 clear hHeld
 rintro u1 ⟨hU1,hD1⟩
 have hHeld:U3.grownBy u1 (Value.slice TA2 nK.length tc2).ownBlock:=ay _ hU1
 have uX:=hU1.size
 refine r1T 10 (fun K hK =>?_)
 (refine ak _ rfl (.tmp 97) (.tmp 99) 89 rfl 92 ia _ Alv.cells 6 88 Tryz.underlying89 hia wI wH wG rfl omA gJ lv base (.slice TA2 nK.length tc2) nK rfl (Ef.out.below hU1 nlr) _ _ _ [⟨⟨xk,xn,xt⟩,xs,xA,xc,xo,xB,xbc,xby⟩] rfl rfl (Blk.one (enc:=Alv.cells) (x:=⟨⟨xk,xn,xt⟩,xs,xA,xc,xo,xB,xbc,xby⟩) hD1 hD1.lt) smA mxA omA ?_;intro v1 u2 hown1 hg1 gz)
 have hgT:U3.grownBy u2 (Value.slice TA2 nK.length tc2).ownBlock:=ax (ay _ hU1) hg1
 obtain⟨A3,c3,hv2,_,_⟩:=hown1.form
 obtain⟨n3,hn3⟩:∃n3,n3=(nK++([⟨⟨xk,xn,xt⟩,xs,xA,xc,xo,xB,xbc,xby⟩]:List Alv)).length:=⟨_,rfl⟩
 rw[←hn3]at hv2
 subst hv2
 have HN3:=qh hn3
 have SG:=qh hown1
 have HAT:=qh gz
 clear hn3 hown1 gz
 refine hK.out _ _ _ hgT (fun hHeld =>?_)
 clear hK K
 refine tkT 11 hHeld ?_ (hQ:=fun c a w h=>HPP.out c _ _ a w h)
 have hT3:=HV2.out.tabs.kept hgT (fun q hq=>by injection hq with hq;subst hq;exact Ra)
 have g3:=hT3.fF qx rfl hk2 (j:= 0) rfl
 have f3:=hT3.ng rfl k
 rw[Na.out]at g3
 simp only[fM.cells,Nat.mul_one,Nat.add_zero]at g3
 obtain⟨cs3,hcs⟩:=hT3.typ (q:=Q) rfl
 have HCS:=qh hcs
 clear hT3 hcs
 refine rzT 12 (fun K hK =>?_)
 go_simp
 refine hK.out _ _ _ ?_
 clear hK K
 refine bf krA ?_ _
 exact HKK.out _ _ _ _ _ _ _ _ _ _ _ _ _ ⟨⟨_,HV2.out.more hk2 Na.out HN3.out hgT SG.out HAT.out uX HA2.out⟩,(HO2.out.Qn Ef.out hgT).store HCS.out _,(HX2.out.grown hgT Oy).far hXQ _,(HR2.out.grown hgT Q9).far hYQ _,(HA2.out.kept Ef.out Et Jq hgT).di HCS.out wZ Ay _,fun V0 h0 hbQ=>(Below.grown h0 hgT hb3 Ef.out.row).setCell hbQ _⟩
theorem NJ(c0 c1 c2 c3 c4 c5 c7 c9 c10 c13 c14 c15 c16 c17 c18 c19 c20 c21 c22 c23 c24 c25 c26 c27 c28 c29 c30 c31 c32 c33 c34 c35 c36 c37 c38 c39 c40 c41 c42 c43 c44 c45 c46 c47 c48 c49 c50 c51 c52 c53 c54 c55 c56 c57 c58 c59 c60 c61 c62 c63 c64 c65 c66 c67 c68 c69 c70 c71 c72 c73 c74 c75 c76 c77 c78 c79 c80 c81 c82 c83 c84 c85 c86 c87 c88 c89 c90 c91 c92 c93 c94 c95 c96 c97 c98 c99 mo mi lu lq lh c105 lg c107 kZ c109 kY kX kW kV mh mg c116 c117 mf c119 ma l9 l7 l5 c124 lZ lY c127 lX lW c130 c131 lV kU kT kS kR kQ c138 c139 jX c141 jW c143 kP c145 c146 kN c148 kM kL kK c152 kJ c154 kI c156 c157 kH c159 c160 kG c162 kF c164 jV jJ c167 c168 jI jH c171 jG c173 jF c175 jE jD jC jB jU jT c182 c183 jS jR jQ jP jO rD rC rz ry c193 c194 rq c196 rf c198 qZ qY c201 qX c203 qo:Value)(X Y k i bb b5 o5 rl cp bl bc:Nat)(sq dy kk:Int)(yA:Option Addr)(yc:Nat)(yo:List Ident)(OA2:Option Addr)(oc2:Nat)(o2:List aF)(W:World)(q1:W.cell? ⟨X,1,none⟩=some (.int .i64 sq))(q2:W.cell? ⟨X,2,none⟩=some (.int .i64 dy))(q3:W.cell? ⟨X,3,none⟩=some (.int .i64 (k:Int)))(q4:W.cell? ⟨X,4,none⟩=some (.slice (some ⟨b5,o5,none⟩) rl cp))(y5:W.cell? ⟨Y,5,none⟩=some (.slice (some ⟨bb,0,none⟩) bl bc))(b0:W.cell? ⟨bb,i,none⟩=some (.slice yA yo.length yc))(v0:W.cell? ⟨b5,o5+i*3,none⟩=some (.int .i64 kk))(hX:X<W.heap.size)(hY:Y<W.heap.size)(hbb:bb<W.heap.size)(hb5:b5<W.heap.size)(hir:i<rl)(hib:i<bl)(ho:ah W W.heap.size aF.cells 8 OA2 o2)(h8i:o2.length≤100000)(KK:Exit→Act→World→Prop)
 (hPP:∀c (d:Nat) v a w,KK (.panic c) (Act.put a (some d) v) w→KK (.panic c) a w)
 (hKK:∀(u6 CG CF CE CB Cz u119 Cy Cx Cw Cv u124 Cu Ct u127 Cs Cr Cq u131 Co Qh GZ GY GX GV u138:Value) (wc:World),(∃(NA:Option Addr) (nc:Nat),u6=.slice NA (nL o2 ⟨(k:Int),(i:Int),sq,sq,dy,yA,yc,yo,(kk == 0),true⟩).length nc∧Below W.heap.size W wc∧aB wc W.heap.size 27 aF.cells 8 (.slice NA (nL o2 ⟨(k:Int),(i:Int),sq,sq,dy,yA,yc,yo,(kk == 0),true⟩).length nc) (nL o2 ⟨(k:Int),(i:Int),sq,sq,dy,yA,yc,yo,(kk == 0),true⟩))→KK .normal ⟨#[c0,c1,c2,c3,c4,c5,u6,c7,.pointer (some ⟨X,0,none⟩),c9,c10,.pointer (some ⟨Y,0,none⟩),.int .i64 (i:Int),c13,c14,c15,c16,c17,c18,c19,c20,c21,c22,c23,c24,c25,c26,c27,c28,c29,c30,c31,c32,c33,c34,c35,c36,c37,c38,c39,c40,c41,c42,c43,c44,c45,c46,c47,c48,c49,c50,c51,c52,c53,c54,c55,c56,c57,c58,c59,c60,c61,c62,c63,c64,c65,c66,c67,c68,c69,c70,c71,c72,c73,c74,c75,c76,c77,c78,c79,c80,c81,c82,c83,c84,c85,c86,c87,c88,c89,c90,c91,c92,c93,c94,c95,c96,c97,c98,c99,mo,mi,lu,lq,lh,c105,lg,c107,kZ,c109,kY,kX,kW,kV,CG,CF,CE,CB,Cz,u119,Cy,Cx,Cw,Cv,u124,Cu,Ct,u127,Cs,Cr,Cq,u131,Co,Qh,GZ,GY,GX,GV,u138,c139,jX,c141,jW,c143,kP,c145,c146,kN,c148,kM,kL,kK,c152,kJ,c154,kI,c156,c157,kH,c159,c160,kG,c162,kF,c164,jV,jJ,c167,c168,jI,jH,c171,jG,c173,jF,c175,jE,jD,jC,jB,jU,jT,c182,c183,jS,jR,jQ,jP,jO,rD,rC,rz,ry,c193,c194,rq,c196,rf,c198,qZ,qY,c201,qX,c203,qo],[]⟩ wc):
 Code.wp Tryz.prog (nI Tryz.f11 23) KK ⟨#[c0,c1,c2,c3,c4,c5,.slice OA2 o2.length oc2,c7,.pointer (some ⟨X,0,none⟩),c9,c10,.pointer (some ⟨Y,0,none⟩),.int .i64 (i:Int),c13,c14,c15,c16,c17,c18,c19,c20,c21,c22,c23,c24,c25,c26,c27,c28,c29,c30,c31,c32,c33,c34,c35,c36,c37,c38,c39,c40,c41,c42,c43,c44,c45,c46,c47,c48,c49,c50,c51,c52,c53,c54,c55,c56,c57,c58,c59,c60,c61,c62,c63,c64,c65,c66,c67,c68,c69,c70,c71,c72,c73,c74,c75,c76,c77,c78,c79,c80,c81,c82,c83,c84,c85,c86,c87,c88,c89,c90,c91,c92,c93,c94,c95,c96,c97,c98,c99,mo,mi,lu,lq,lh,c105,lg,c107,kZ,c109,kY,kX,kW,kV,mh,mg,c116,c117,mf,c119,ma,l9,l7,l5,c124,lZ,lY,c127,lX,lW,c130,c131,lV,kU,kT,kS,kR,kQ,c138,c139,jX,c141,jW,c143,kP,c145,c146,kN,c148,kM,kL,kK,c152,kJ,c154,kI,c156,c157,kH,c159,c160,kG,c162,kF,c164,jV,jJ,c167,c168,jI,jH,c171,jG,c173,jF,c175,jE,jD,jC,jB,jU,jT,c182,c183,jS,jR,jQ,jP,jO,rD,rC,rz,ry,c193,c194,rq,c196,rf,c198,qZ,qY,c201,qX,c203,qo],[]⟩ W:=by
 have HKK:=qh hKK
 have HPP:=qh hPP
 clear hKK hPP
 have HOR:=qh ho
 have WH:decide (i<rl)=true:=by simpa using hir
 have Us:decide (i<bl)=true:=by simpa using hib
 clear ho
 conv=>arg 2;whnf
 refine aT (S:=(fun v=>Below W.heap.size W v)) [] krA (brf.drew) (fun hHeld =>?_)
 refine tkT 0 hHeld ?_ (hQ:=fun c a w h=>HPP.out c _ _ a w h)
 refine tkT 1 hHeld ?_ (hQ:=fun c a w h=>HPP.out c _ _ a w h)
 refine tkT 2 hHeld ?_ (hQ:=fun c a w h=>HPP.out c _ _ a w h) (hy:=by intro v hSv;(try dsimp only at hSv);have h1:=keepW hSv X omA;go_simp;first|done|with_reducible rfl)
 refine tkT 3 hHeld ?_ (hQ:=fun c a w h=>HPP.out c _ _ a w h)
 refine tkT 4 hHeld ?_ (hQ:=fun c a w h=>HPP.out c _ _ a w h)
 refine tkT 5 hHeld ?_ (hQ:=fun c a w h=>HPP.out c _ _ a w h) (hy:=by intro v hSv;(try dsimp only at hSv);have h1:=keepW hSv X omA;go_simp;first|done|with_reducible rfl)
 refine tkT 6 hHeld ?_ (hQ:=fun c a w h=>HPP.out c _ _ a w h)
 refine tkT 7 hHeld ?_ (hQ:=fun c a w h=>HPP.out c _ _ a w h)
 refine tkT 8 hHeld ?_ (hQ:=fun c a w h=>HPP.out c _ _ a w h) (hy:=by intro v hSv;(try dsimp only at hSv);have h1:=keepW hSv X omA;go_simp;first|done|with_reducible rfl)
 refine tkT 9 hHeld ?_ (hQ:=fun c a w h=>HPP.out c _ _ a w h)
 refine tkT 10 hHeld ?_ (hQ:=fun c a w h=>HPP.out c _ _ a w h) (hy:=by intro v hSv;(try dsimp only at hSv);have h1:=keepW hSv X omA;go_simp;first|done|with_reducible rfl)
 refine tkT 11 hHeld ?_ (hQ:=fun c a w h=>HPP.out c _ _ a w h)
 refine tkT 12 hHeld ?_ (hQ:=fun c a w h=>HPP.out c _ _ a w h) (hy:=by intro v hSv;(try dsimp only at hSv);have h1:=keepW hSv Y omA;go_simp;first|done|with_reducible rfl)
 refine tkT 13 hHeld ?_ (hQ:=fun c a w h=>HPP.out c _ _ a w h)
 refine tkT 14 hHeld ?_ (hQ:=fun c a w h=>HPP.out c _ _ a w h)
 refine tkT 15 hHeld ?_ (hQ:=fun c a w h=>HPP.out c _ _ a w h) (hy:=by intro v hSv;(try dsimp only at hSv);have h1:=keepW hSv bb omA;go_simp;first|done|with_reducible rfl)
 refine tkT 16 hHeld ?_ (hQ:=fun c a w h=>HPP.out c _ _ a w h)
 refine tkT 17 hHeld ?_ (hQ:=fun c a w h=>HPP.out c _ _ a w h) (hy:=by intro v hSv;(try dsimp only at hSv);have h1:=keepW hSv X omA;go_simp;first|done|with_reducible rfl)
 refine tkT 18 hHeld ?_ (hQ:=fun c a w h=>HPP.out c _ _ a w h)
 refine tkT 19 hHeld ?_ (hQ:=fun c a w h=>HPP.out c _ _ a w h)
 refine tkT 20 hHeld ?_ (hQ:=fun c a w h=>HPP.out c _ _ a w h)
 refine tkT 21 hHeld ?_ (hQ:=fun c a w h=>HPP.out c _ _ a w h) (hy:=by intro v hSv;(try dsimp only at hSv);have h1:=keepW hSv b5 omA;go_simp;first|done|with_reducible rfl)
 refine tkT 22 hHeld ?_ (hQ:=fun c a w h=>HPP.out c _ _ a w h)
 refine tkT 23 hHeld ?_ (hQ:=fun c a w h=>HPP.out c _ _ a w h)
 refine au (P:=fun v=>wpT _ _ _ _ _ _ _ _ _ v) (R:=fun v=>Below W.heap.size W v) hHeld ?_
 clear hHeld
 rintro u0 hU0
 have hHeld:=hU0
 refine r1T 24 (fun K hK =>?_)
 go_simp
 (go_at_call 43;(with_reducible refine(zU OA2 oc2 o2.length o2 (k:Int) (i:Int) sq sq dy yA yc yo (kk == 0) true u0 (HOR.out.next hU0) rfl h8i).mono ?_))
 rintro e u1 ⟨⟨NA,nc,rfl,hno⟩,BR⟩
 have hU1:=ae hU0 BR hU0.size
 refine hK.out _ _ _ hU1 (fun hHeld =>?_)
 clear hK K
 refine tkT 25 hHeld ?_ (hQ:=fun c a w h=>HPP.out c _ _ a w h)
 refine bf krA ?_ _
 exact HKK.out _ _ _ _ _ _ _ _ _ _ _ _ _ _ _ _ _ _ _ _ _ _ _ _ _ _ _ ⟨NA,nc,rfl,hU1,hno.mono hU0.size⟩
theorem NH(c0 c1 c2 c3 c4 c5 c7 c9 c10 c11 c12 c14 c15 c16 c17 c18 c19 c20 c21 c22 c23 c24 c25 c26 c27 c28 c29 c30 c31 c32 c33 c34 c35 c36 c37 c38 c39 c40 c41 c42 c43 c44 c45 c46 c47 c48 c49 c50 c51 c52 c53 c54 c55 c56 c57 c58 c59 c60 c61 c62 c63 c64 c65 c66 c67 c68 c69 c70 c71 c72 c73 c74 c75 c76 c77 c78 c79 c80 c81 c82 c83 c84 c85 c86 c87 c88 c89 c90 c91 c92 c93 c94 c95 c96 c97 c98 c99 mo mi lu lq lh c105 lg c107 kZ c109 kY kX kW kV mh mg c116 c117 mf c119 ma l9 l7 l5 c124 lZ lY c127 lX lW c130 c131 lV kU kT kS kR kQ c138 c139 jX c141 jW c143 kP c145 c146 kN c148 kM kL kK c152 kJ c154 kI c156 c157 kH c159 c160 kG c162 kF c164 jV jJ c167 c168 jI jH c171 jG c173 jF c175 jE jD jC jB jU jT c182 c183 jS jR jQ jP jO rD rC rz ry c193 c194 rq c196 rf c198 qZ qY c201 qX c203 qo:Value)(X Y k i bb bl bc:Nat)(sq dy kk xs:Int)(yA:Option Addr)(yc:Nat)(yo:List Ident)(OA2:Option Addr)(oc2:Nat)(o2:List aF)(W:World)(q1:W.cell? ⟨X,1,none⟩=some (.int .i64 sq))(q2:W.cell? ⟨X,2,none⟩=some (.int .i64 dy))(q3:W.cell? ⟨X,3,none⟩=some (.int .i64 (k:Int)))(q8:W.cell? ⟨X,8,none⟩=some (.int .i64 (i:Int)))(q9:W.cell? ⟨X,9,none⟩=some (.int .i64 kk))(y3:W.cell? ⟨Y,3,none⟩=some (.int .i64 xs))(y5:W.cell? ⟨Y,5,none⟩=some (.slice (some ⟨bb,0,none⟩) bl bc))(b0:W.cell? ⟨bb,i,none⟩=some (.slice yA yo.length yc))(hX:X<W.heap.size)(hY:Y<W.heap.size)(hbb:bb<W.heap.size)(hib:i<bl)(ho:ah W W.heap.size aF.cells 8 OA2 o2)(h8i:o2.length≤100000)(KK:Exit→Act→World→Prop)
 (hPP:∀c (d:Nat) v a w,KK (.panic c) (Act.put a (some d) v) w→KK (.panic c) a w)
 (hKK:∀(u6 Qf Qe Qd Qc Qb Qa P9 P8 P7 P6 P5 PZ PY u193 u194 PX u196 PW u198 PV PU u201 PT PS:Value) (wc:World),(∃(NA:Option Addr) (nc:Nat),u6=.slice NA (nL o2 ⟨(k:Int),(i:Int),sq,xs,dy,yA,yc,yo,(kk == 0),true⟩).length nc∧Below W.heap.size W wc∧aB wc W.heap.size 27 aF.cells 8 (.slice NA (nL o2 ⟨(k:Int),(i:Int),sq,xs,dy,yA,yc,yo,(kk == 0),true⟩).length nc) (nL o2 ⟨(k:Int),(i:Int),sq,xs,dy,yA,yc,yo,(kk == 0),true⟩))→KK .normal ⟨#[c0,c1,c2,c3,c4,c5,u6,c7,.pointer (some ⟨X,0,none⟩),c9,c10,c11,c12,.pointer (some ⟨Y,0,none⟩),c14,c15,c16,c17,c18,c19,c20,c21,c22,c23,c24,c25,c26,c27,c28,c29,c30,c31,c32,c33,c34,c35,c36,c37,c38,c39,c40,c41,c42,c43,c44,c45,c46,c47,c48,c49,c50,c51,c52,c53,c54,c55,c56,c57,c58,c59,c60,c61,c62,c63,c64,c65,c66,c67,c68,c69,c70,c71,c72,c73,c74,c75,c76,c77,c78,c79,c80,c81,c82,c83,c84,c85,c86,c87,c88,c89,c90,c91,c92,c93,c94,c95,c96,c97,c98,c99,mo,mi,lu,lq,lh,c105,lg,c107,kZ,c109,kY,kX,kW,kV,mh,mg,c116,c117,mf,c119,ma,l9,l7,l5,c124,lZ,lY,c127,lX,lW,c130,c131,lV,kU,kT,kS,kR,kQ,c138,c139,jX,c141,jW,c143,kP,c145,c146,kN,c148,kM,kL,kK,c152,kJ,c154,kI,c156,c157,kH,c159,c160,kG,c162,kF,c164,jV,jJ,c167,c168,jI,jH,c171,jG,c173,jF,c175,jE,jD,jC,jB,Qf,Qe,Qd,Qc,Qb,Qa,P9,P8,P7,P6,P5,PZ,PY,u193,u194,PX,u196,PW,u198,PV,PU,u201,PT,PS,qo],[]⟩ wc):
 Code.wp Tryz.prog (nI Tryz.f11 29) KK ⟨#[c0,c1,c2,c3,c4,c5,.slice OA2 o2.length oc2,c7,.pointer (some ⟨X,0,none⟩),c9,c10,c11,c12,.pointer (some ⟨Y,0,none⟩),c14,c15,c16,c17,c18,c19,c20,c21,c22,c23,c24,c25,c26,c27,c28,c29,c30,c31,c32,c33,c34,c35,c36,c37,c38,c39,c40,c41,c42,c43,c44,c45,c46,c47,c48,c49,c50,c51,c52,c53,c54,c55,c56,c57,c58,c59,c60,c61,c62,c63,c64,c65,c66,c67,c68,c69,c70,c71,c72,c73,c74,c75,c76,c77,c78,c79,c80,c81,c82,c83,c84,c85,c86,c87,c88,c89,c90,c91,c92,c93,c94,c95,c96,c97,c98,c99,mo,mi,lu,lq,lh,c105,lg,c107,kZ,c109,kY,kX,kW,kV,mh,mg,c116,c117,mf,c119,ma,l9,l7,l5,c124,lZ,lY,c127,lX,lW,c130,c131,lV,kU,kT,kS,kR,kQ,c138,c139,jX,c141,jW,c143,kP,c145,c146,kN,c148,kM,kL,kK,c152,kJ,c154,kI,c156,c157,kH,c159,c160,kG,c162,kF,c164,jV,jJ,c167,c168,jI,jH,c171,jG,c173,jF,c175,jE,jD,jC,jB,jU,jT,c182,c183,jS,jR,jQ,jP,jO,rD,rC,rz,ry,c193,c194,rq,c196,rf,c198,qZ,qY,c201,qX,c203,qo],[]⟩ W:=by
 have HKK:=qh hKK
 have HPP:=qh hPP
 clear hKK hPP
 have HOR:=qh ho
 have Us:decide (i<bl)=true:=by simpa using hib
 clear ho
 conv=>arg 2;whnf
 refine aT (S:=(fun v=>Below W.heap.size W v)) [] krA (brf.drew) (fun hHeld =>?_)
 refine tkT 0 hHeld ?_ (hQ:=fun c a w h=>HPP.out c _ _ a w h)
 refine tkT 1 hHeld ?_ (hQ:=fun c a w h=>HPP.out c _ _ a w h)
 refine tkT 2 hHeld ?_ (hQ:=fun c a w h=>HPP.out c _ _ a w h) (hy:=by intro v hSv;(try dsimp only at hSv);have h1:=keepW hSv X omA;go_simp;first|done|with_reducible rfl)
 refine tkT 3 hHeld ?_ (hQ:=fun c a w h=>HPP.out c _ _ a w h)
 refine tkT 4 hHeld ?_ (hQ:=fun c a w h=>HPP.out c _ _ a w h) (hy:=by intro v hSv;(try dsimp only at hSv);have h1:=keepW hSv X omA;go_simp;first|done|with_reducible rfl)
 refine tkT 5 hHeld ?_ (hQ:=fun c a w h=>HPP.out c _ _ a w h)
 refine tkT 6 hHeld ?_ (hQ:=fun c a w h=>HPP.out c _ _ a w h) (hy:=by intro v hSv;(try dsimp only at hSv);have h1:=keepW hSv X omA;go_simp;first|done|with_reducible rfl)
 refine tkT 7 hHeld ?_ (hQ:=fun c a w h=>HPP.out c _ _ a w h)
 refine tkT 8 hHeld ?_ (hQ:=fun c a w h=>HPP.out c _ _ a w h)
 refine tkT 9 hHeld ?_ (hQ:=fun c a w h=>HPP.out c _ _ a w h) (hy:=by intro v hSv;(try dsimp only at hSv);have h1:=keepW hSv Y omA;go_simp;first|done|with_reducible rfl)
 refine tkT 10 hHeld ?_ (hQ:=fun c a w h=>HPP.out c _ _ a w h)
 refine tkT 11 hHeld ?_ (hQ:=fun c a w h=>HPP.out c _ _ a w h) (hy:=by intro v hSv;(try dsimp only at hSv);have h1:=keepW hSv X omA;go_simp;first|done|with_reducible rfl)
 refine tkT 12 hHeld ?_ (hQ:=fun c a w h=>HPP.out c _ _ a w h)
 refine tkT 13 hHeld ?_ (hQ:=fun c a w h=>HPP.out c _ _ a w h) (hy:=by intro v hSv;(try dsimp only at hSv);have h1:=keepW hSv Y omA;go_simp;first|done|with_reducible rfl)
 refine tkT 14 hHeld ?_ (hQ:=fun c a w h=>HPP.out c _ _ a w h)
 refine tkT 15 hHeld ?_ (hQ:=fun c a w h=>HPP.out c _ _ a w h) (hy:=by intro v hSv;(try dsimp only at hSv);have h1:=keepW hSv X omA;go_simp;first|done|with_reducible rfl)
 refine tkT 16 hHeld ?_ (hQ:=fun c a w h=>HPP.out c _ _ a w h)
 refine tkT 17 hHeld ?_ (hQ:=fun c a w h=>HPP.out c _ _ a w h) (hy:=by intro v hSv;(try dsimp only at hSv);have h1:=keepW hSv bb omA;go_simp;first|done|with_reducible rfl)
 refine tkT 18 hHeld ?_ (hQ:=fun c a w h=>HPP.out c _ _ a w h)
 refine tkT 19 hHeld ?_ (hQ:=fun c a w h=>HPP.out c _ _ a w h)
 refine tkT 20 hHeld ?_ (hQ:=fun c a w h=>HPP.out c _ _ a w h) (hy:=by intro v hSv;(try dsimp only at hSv);have h1:=keepW hSv X omA;go_simp;first|done|with_reducible rfl)
 refine tkT 21 hHeld ?_ (hQ:=fun c a w h=>HPP.out c _ _ a w h)
 refine tkT 22 hHeld ?_ (hQ:=fun c a w h=>HPP.out c _ _ a w h)
 refine au (P:=fun v=>wpT _ _ _ _ _ _ _ _ _ v) (R:=fun v=>Below W.heap.size W v) hHeld ?_
 clear hHeld
 rintro u0 hU0
 have hHeld:=hU0
 refine r1T 23 (fun K hK =>?_)
 go_simp
 (go_at_call 43;(with_reducible refine(zU OA2 oc2 o2.length o2 (k:Int) (i:Int) sq xs dy yA yc yo (kk == 0) true u0 (HOR.out.next hU0) rfl h8i).mono ?_))
 rintro e u1 ⟨⟨NA,nc,rfl,hno⟩,BR⟩
 have hU1:=ae hU0 BR hU0.size
 refine hK.out _ _ _ hU1 (fun hHeld =>?_)
 clear hK K
 refine tkT 24 hHeld ?_ (hQ:=fun c a w h=>HPP.out c _ _ a w h)
 refine bf krA ?_ _
 exact HKK.out _ _ _ _ _ _ _ _ _ _ _ _ _ _ _ _ _ _ _ _ _ _ _ _ _ _ ⟨NA,nc,rfl,hU1,hno.mono hU0.size⟩
theorem xx(A:Option Addr)(c m:Nat)(ts:List Tab)(LA:Option Addr)(lc n:Nat)(l:List Chg)(w:World)(ht:aM w w.heap.size A ts)(hm:ts.length=m)(hs:aL ts)(hok:aY ts)(h5:ts.length≤5)(hl:iD w w.heap.size LA l)(hn:l.length=n)(hn6:n≤1000)(hrow:∀x∈l,x.row.length≤8):
 Calls Tryz.prog 11 #[.agg #[.slice A m c,.slice none 0 0,.slice none 0 0,.slice none 0 0,.slice none 0 0,.slice none 0 0,.slice none 0 0,.slice none 0 0],.slice LA n lc] w fun e w'=>(∃OA oc o,e=.returned (.slice OA o.length oc)∧fe w' w.heap.size OA oc o (8*n))∧Below w.heap.size w w':=by
 subst hm hn
 obtain⟨i7,hi7,hz7,hs7,hb7⟩:=info_parts Kb
 obtain⟨ia,hia,wI,wH,wG⟩:=info_parts wS
 have hmk:∀u:World,(Instr.makeSlice 87 (.int .i64 (ts.length:Int)) (.int .i64 (ts.length:Int))).run Tryz.prog u=.ok (.slice (some ⟨u.heap.size,0,none⟩) ts.length ts.length) (u.alloc (.cells (madeCells (fM.cells vK).toArray (ts.length*1)) 89)):=fun u=>by
  have:=jl (P:=Tryz.prog) 87 89 i7 (.slice none 0 0) Tryz.underlying87 hi7 hz7 .i64 .i64 ts.length ts.length nlr (by rw[hb7];omega) omA u
  rw[hs7]at this
  exact this
 have HMK:=qh hmk
 have HT:=qh ht
 have HS:=qh hs
 have HOK:=qh hok
 have HL:=qh hl
 have qB:=qh hrow
 obtain⟨rr,hrr⟩:∃rr,pb (uE ts l)=rr:=⟨_,rfl⟩
 have HRR:=qh hrr
 clear ht hs hok hl hrow hi7 hz7 hs7 hb7 hmk hrr
 go_enter Tryz.func11,Tryz.ntmps11
 go_upto_region 1 with (fail)
 refine au (P:=fun u=>Code.wp _ _ _ _ u) (R:=fun u=>Blk u w.heap.size 39 #[.slice A ts.length c,.slice none 0 0,.slice none 0 0,.slice none 0 0,.slice none 0 0,.slice none 0 0,.slice none 0 0,.slice none 0 0]∧Below w.heap.size w u) ⟨?_,?_⟩ ?_
 ·exact Blk.new _ _ _
 ·exact av
 rintro W0 ⟨hC0,hbW0⟩
 obtain⟨p0,p1,p2,p3,p4,p5,p6,p7⟩:=Cat.blk hC0
 have HC0:=qh hC0
 have Qp:=hC0.lt
 clear hC0
 go_wp2_with fail
 (with_reducible refine(xC A c ts.length ts LA lc l.length l _ (HT.out.next hbW0) rfl HS.out HOK.out (HL.out.next hbW0) rfl omA (fun x hx=>by have:=qB.out x hx;omega) HRR.out).mono ?_)
 rintro e W ⟨rfl,hb1⟩
 have hbW:=ae hbW0 hb1 hbW0.size
 have HC:=qh (HC0.out.below hb1 Qp)
 have TC:=hb1.size
 have hzW:w.heap.size<W.heap.size:=by omega
 clear p0 p1 p2 p3 p4 p5 p6 p7
 cases rr
 ·go_wp2_with fail
  go_ret
  exact⟨⟨none,0,[],rfl,aB.nil,Nat.zero_le _,fun x hx=>by cases hx⟩,hbW⟩
 have Vj:=qh (eF.1 HRR.out)
 have hCW:=HC.out
 obtain⟨p0,p1,p2,p3,p4,p5,p6,p7⟩:=Cat.blk hCW
 clear HRR hCW HC0 hb1 Qp hbW0 TC
 have hmk:=HMK.out
 go_upto_region 4 with (fail)
 clear hmk HMK
 refine au (P:=fun u=>Code.wp _ _ _ _ u) (R:=fun u=>fI u W.heap.size ts W.heap.size (List.replicate ts.length vK) 0∧Below W.heap.size W u) ⟨?_,?_⟩ ?_
 ·exact fI.zero (n:=ts.length) (by first|exact Blk.new' rfl|exact(Blk.new' spA)) nlr rfl mxA
 ·exact av
 rintro W1 ⟨hV1,hbW1⟩
 have HV1:=qh hV1
 obtain⟨Q,hQ⟩:∃Q,Q=W.heap.size:=⟨_,rfl⟩
 have Xl:W.heap.size<W1.heap.size:=hV1.tabs.lt W.heap.size rfl
 clear hV1
 clear p0 p1 p2 p3 p4 p5 p6 p7
 go_wp2_with fail
 go_loopw [6,7] (fun v6 v7 wr =>∃(i:Nat) (OA:Option Addr) (oc:Nat) (o:List aF) (al:List fM),i≤l.length∧v7=.int .i64 i∧v6=.slice OA o.length oc∧fI wr W.heap.size ts W.heap.size al i∧fe wr W.heap.size OA oc o (8*i)∧Below W.heap.size W wr) (fun _ v7 _=>l.length-(intOf v7).toNat)
 case atStart=>exact⟨0,none,0,[],_,Nat.zero_le _,rfl,rfl,HV1.out,fe.nil,hbW1⟩
 case round =>
  clear HV1
  obtain⟨i,OA,oc,o,al,hi,rfl,rfl,hV,hO,hbr⟩:=hrel
  have HV:=qh hV
  have HO:=qh hO
  have HAL:=qh hV.len
  have hxr:=ae hbW hbr hbW.size
  have hzr:=hbr.size
  have hQr:W.heap.size<wr.heap.size:=hV.tabs.lt W.heap.size rfl
  clear hV hO
  by_cases hlt:i<l.length
  rotate_left
  ·have hlt':decide (i<l.length)=false:=by simpa using hlt
   go_wp2_with fail
   go_ret
   exact⟨⟨OA,oc,o,rfl,(HO.out.lift omA).mono omA⟩,hxr⟩
  have hlt':decide (i<l.length)=true:=by simpa using hlt
  obtain⟨k,hin⟩:=uq (Vj.out.at_ i hlt).form
  obtain⟨cb,co,hLe,hcb,hcc⟩:=(HL.out.1.below hxr).get hlt
  obtain⟨⟨q0,q1,q2,q3⟩,q4,⟨q5,q6,q7⟩,q8,q9,q10,q11⟩:=Chg.wT hcc
  have hrv:=HL.out.2 l[i] (lgm hlt)
  have Fw:=qB.out l[i] (lgm hlt)
  obtain⟨⟨kd,sq,dy,tb,A0,cp,row,key,cl,vl⟩,hy⟩:∃x:Chg,l[i]=x:=⟨_,rfl⟩
  rw[hy]at q0 q1 q2 q3 q4 q5 q6 q7 q8 q9 q10 q11 hrv Fw hin
  simp only at q0 q1 q2 q3 q4 q5 q6 q7 q8 q9 q10 q11 hrv Fw
  obtain rfl:tb=(k:Int):=hin.tab
  subst hLe
  have hk:=hin.lt
  have hcs:=HOK.out.af hk
  have hca:=gB hk
  have HCA:=qh hca
  have Vz:=qh hcs
  have HIN:=qh hin
  have HRV:=qh hrv
  clear hcc hy hrv hin hca hcs
  go_upto_if 36 with (fail)
  refine au (P:=fun u=>Code.wp _ _ _ _ u) (R:=fun u=>Blk u wr.heap.size 64 #[.int .i64 kd,.int .i64 sq,.int .i64 dy,.int .i64 (k:Int),.slice A0 row.length cp,.int .i64 key.kind,.int .i64 key.num,.string key.text,.int .i64 cl,.int .i64 vl.kind,.int .i64 vl.num,.string vl.text]∧Blk u (wr.heap.size+1) 62 (Val.cells key).toArray∧Below wr.heap.size wr u) ⟨?_,?_,?_⟩ ?_
  ·exact(Blk.new' rfl).alloc _
  ·exact Blk.new' spA
  ·exact av
  rintro U0 ⟨hX0,hK0,hb0⟩
  have hzX:=hX0.lt
  have hzK:=hK0.lt
  clear q0 q1 q2 q3 q4 q5 q6 q7 q8 q9 q10 q11
  obtain⟨⟨q0,q1,q2,q3⟩,q4,⟨q5,q6,q7⟩,q8,q9,q10,q11⟩:=Chg.iR (x:=⟨kd,sq,dy,(k:Int),A0,cp,row,key,cl,vl⟩) hX0
  simp only at q0 q1 q2 q3 q4 q5 q6 q7 q8 q9 q10 q11
  go_cut [] from 34 to 40 (fun wc =>∃kv:Val,Blk wc wr.heap.size 64 #[.int .i64 kd,.int .i64 sq,.int .i64 dy,.int .i64 (k:Int),.slice A0 row.length cp,.int .i64 key.kind,.int .i64 key.num,.string key.text,.int .i64 cl,.int .i64 vl.kind,.int .i64 vl.num,.string vl.text]∧Blk wc (wr.heap.size+1) 62 (Val.cells kv).toArray∧Below wr.heap.size wr wc)
  case first =>
   by_cases hkd:kd=1
   ·have Mx:(kd == 1)=true:=by simpa using hkd
    have hr0:0<row.length:=by
     have h1:=HIN.out.ins hkd
     have h2:=Vz.out.1
     rw[HCA.out]at h1
     simp only at h1
     omega
    have pU:decide (0<row.length)=true:=by simpa using hr0
    obtain⟨b5,o5,hRe,hb5,hc5⟩:=HRV.out.get hr0
    obtain⟨v0,v1,v2⟩:=Val.cells3 hc5
    have hx0:=ae hxr hb0 hxr.size
    have v0:=(hx0.cell (p:=⟨b5,_,none⟩) hb5).trans v0
    have v1:=(hx0.cell (p:=⟨b5,_,none⟩) hb5).trans v1
    have v2:=(hx0.cell (p:=⟨b5,_,none⟩) hb5).trans v2
    obtain⟨⟨kk,kn,kt⟩,hkv⟩:∃v:Val,row[0]=v:=⟨_,rfl⟩
    rw[hkv]at v0 v1 v2
    simp only[Nat.zero_mul,Nat.add_zero]at v0 v1 v2
    subst hRe
    have z0:=hK0.cell 0
    have z1:=hK0.cell 1
    have z2:=hK0.cell 2
    have zf:=hK0.frozen
    simp only[gE3,Val.cells]at z0 z1 z2
    clear hkd hkv hc5
    go_wp2_with fail
    go_meet
    exact⟨⟨kk,kn,kt⟩,((hX0.far (by show wr.heap.size≠wr.heap.size+1;omega) _).far (by show wr.heap.size≠wr.heap.size+1;omega) _).far (by show wr.heap.size≠wr.heap.size+1;omega) _,qp hK0,((hb0.setCell (by show wr.heap.size≤wr.heap.size+1;omega) _).setCell (by show wr.heap.size≤wr.heap.size+1;omega) _).setCell (by show wr.heap.size≤wr.heap.size+1;omega) _⟩
   ·have Mx:(kd == 1)=false:=by simpa using hkd
    clear hkd
    go_wp2_with fail
    go_meet
    exact⟨key,hX0,hK0,hb0⟩
  case rest =>
  clear q0 q1 q2 q3 q4 q5 q6 q7 q8 q9 q10 q11
  clear hX0 hK0 hb0 hzX hzK
  obtain⟨kv,hX,hK,hbU⟩:=hcut
  obtain⟨U,rfl⟩:∃U:World,U=wc:=⟨_,rfl⟩
  have hzX:=hX.lt
  have hzK:=hK.lt
  have hzU:=hbU.size
  have HVU:=qh (HV.out.below hbU)
  have hkl:k<al.length:=by have:=HAL.out;omega
  have g0:=HVU.out.cell hkl
  have vV:=HVU.out.recs k hkl
  obtain⟨⟨TA,tc,recs⟩,hlk⟩:∃x:fM,al[k]=x:=⟨_,rfl⟩
  rw[hlk]at g0 vV
  simp only at g0 vV
  have HLK:=qh hlk
  have HRI:=qh vV.2
  have hri:=vV.2
  have HRO:=qh vV.1
  have oL:Hid (ah U U.heap.size Alv.cells 6 TA recs):=qh (bJ gJ vV.1)
  have hcap:=iK vV.1
  have hkt:decide (k<ts.length)=true:=by simpa using hk
  obtain⟨z,hz⟩:∃z,gI recs kv=z:=⟨_,rfl⟩
  have HZ:=qh hz
  obtain⟨⟨q0,q1,q2,q3⟩,q4,⟨q5,q6,q7⟩,q8,q9,q10,q11⟩:=Chg.iR (x:=⟨kd,sq,dy,(k:Int),A0,cp,row,key,cl,vl⟩) hX
  simp only at q0 q1 q2 q3 q4 q5 q6 q7 q8 q9 q10 q11
  have k0:=hK.cell 0
  have k1:=hK.cell 1
  have k2:=hK.cell 2
  simp only[gE3,Val.cells]at k0 k1 k2
  have HX0:=qh hX
  clear hX hK hlk vV hz
  go_upto_region 12 with (fail)
  refine NM _ _ _ _ _ _ _ _ _ _ _ _ _ _ _ _ _ _ _ _ _ _ _ _ _ _ _ _ _ _ _ _ _ _ _ _ _ _ _ _ _ _ _ _ _ _ _ _ _ _ _ _ _ _ _ _ _ _ _ _ _ _ _ _ _ _ _ _ _ _ _ _ _ _ _ _ _ _ _ _ _ _ _ _ _ _ _ _ _ _ _ _ _ _ _ _ _ _ _ _ _ _ _ _ _ _ _ _ _ _ _ _ _ _ _ _ _ _ _ _ _ _ _ _ _ _ _ _ _ _ _ _ _ _ _ _ _ _ _ _ _ _ _ _ _ _ _ _ _ _ _ _ _ _ _ _ _ _ _ _ _ _ _ _ _ _ _ _ _ _ _ _ _ _ _ _ _ _ _ _ _ _ _ _ _ _ _ _ _ _ _ _ _ _ _ _ _ _ _ _ _ _ W.heap.size ts.length wr.heap.size k TA tc recs kv z U q3 g0 k0 k1 k2 hzK omA hk oL.out omA HZ.out _ (fun _ _ _ _ _ h=>h) ?_
  intro u10 u41 u42 u43 u44 u45 u46 u47 V OT
  obtain⟨rfl,hUV⟩:=OT
  clear k0 k1 k2
  clear q0 q1 q2 q3 q4 q5 q6 q7 q8 q9 q10 q11
  have HX:=qh (HX0.out.below hUV hzX)
  have hzV:=hUV.size
  have HVV:=qh (HVU.out.below hUV)
  have hbV:Below wr.heap.size wr V:=ae hbU hUV hzU
  have HOV:=qh (HO.out.below hbV)
  have zI:Below W.heap.size W V:=ae hbr hbV hzr
  have hxV:Below w.heap.size w V:=ae hbW zI hbW.size
  have nR:Hid (ah V V.heap.size Alv.cells 6 TA recs):=qh (oL.out.next hUV)
  have Py:=qh (HRO.out.below hUV nlr)
  have g0:=HVV.out.cell hkl
  rw[HLK.out]at g0
  simp only at g0
  have hCV:=HC.out.below zI hzW
  obtain⟨p0,p1,p2,p3,p4,p5,p6,p7⟩:=Cat.blk hCV
  have hXV:=HX.out
  obtain⟨⟨q0,q1,q2,q3⟩,q4,⟨q5,q6,q7⟩,q8,q9,q10,q11⟩:=Chg.iR (x:=⟨kd,sq,dy,(k:Int),A0,cp,row,key,cl,vl⟩) hXV
  simp only at q0 q1 q2 q3 q4 q5 q6 q7 q8 q9 q10 q11
  clear hCV hXV HX0 oL HRO
  cases hkd:(kd == 1)
  ·by_cases hz0:z<0
   ·have hz0':decide (z<0)=true:=by simpa using hz0
    clear hz0
    go_wp2_with fail
    go_roundw
    case rel=>exact⟨i+1,_,_,_,al,by omega,by go_num,rfl,HVV.out.mono omA,HOV.out.mono omA,zI⟩
    case measure=>exact meA
   obtain⟨j,hj,hje,_⟩:=mQ (p:=fun x:Alv=>decide (x.key=kv)) (l:=recs) (by rw[←gI,HZ.out];omega)
   rw[←gI,HZ.out]at hje
   subst hje
   have hz0':decide ((j:Int)<0)=false:=by simp
   obtain⟨tb5,htb⟩:=fA Py.out (Nat.lt_of_le_of_lt (Nat.zero_le _) hj)
   subst htb
   clear hz0
   cases Ul:(kd == 3)
   rotate_left
   ·clear p0 p1 p2 p3 p4 p5 p6 p7
    go_upto_region 26 with (fail)
    refine NI _ _ _ _ _ _ _ _ _ _ _ _ _ _ _ _ _ _ _ _ _ _ _ _ _ _ _ _ _ _ _ _ _ _ _ _ _ _ _ _ _ _ _ _ _ _ _ _ _ _ _ _ _ _ _ _ _ _ _ _ _ _ _ _ _ _ _ _ _ _ _ _ _ _ _ _ _ _ _ _ _ _ _ _ _ _ _ _ _ _ _ _ _ _ _ _ _ _ _ _ _ _ _ _ _ _ _ _ _ _ _ _ _ _ _ _ _ _ _ _ _ _ _ _ _ _ _ _ _ _ _ _ _ _ _ _ _ _ _ _ _ _ _ _ _ _ _ _ _ _ _ _ _ _ _ _ _ _ _ _ _ _ _ _ _ _ _ _ _ _ _ _ _ _ _ _ _ _ _ _ _ _ _ _ _ _ _ _ _ _ _ _ _ _ _ _ _ _ _ _ _ _ W.heap.size ts.length wr.heap.size k i W.heap.size tb5 tc j ts al recs OA oc o (8*i) V HVV.out HOV.out HAL.out hkl HLK.out hj q3 omA omA _ (fun _ _ _ _ _ h=>h) ?_
    intro GU GR GQ GN GM GL GK GJ u152 GI u154 GH GG GD GA Gz Gy Gx u162 Gw u164 Qg V' OM
    obtain⟨al2,h2,hV2,hO2,-,hpa⟩:=OM
    have HV2:=qh (hV2.mono (r':=i+1) omA)
    have HO2:=qh (hO2.mono (N':= 8*(i+1)) omA)
    have hbN:=hpa.below zI zI.size nlr
    clear q0 q1 q2 q3 q4 q5 q6 q7 q8 q9 q10 q11
    clear g0 hV2 hO2 hpa h2
    go_wp2_with fail
    go_roundw
    case rel=>exact⟨i+1,_,_,_,al2,by omega,by go_num,rfl,HV2.out,HO2.out,hbN⟩
    case measure=>exact meA
   have hk2:kd=2:=by
    have h1:=HIN.out.kind
    simp only at h1
    have h2:kd≠1:=by simpa using hkd
    have h3:kd≠3:=by simpa using Ul
    omega
   obtain⟨j2,hj2,Rl⟩:=HIN.out.upd hk2
   simp only at hj2
   subst hj2
   have hcj:j2<ts[k].af.length:=by rw[←HCA.out];exact Rl
   clear hk2
   obtain⟨rp,hrp⟩:∃rp,persB ts k j2=rp:=⟨_,rfl⟩
   have HRP:=qh hrp
   clear hrp
   go_wp2_with fail
   (with_reducible refine(pE A c ts.length ts k j2 _ (HT.out.next hxV) rfl HS.out HOK.out hk hcj HRP.out).mono ?_)
   rintro e Vp ⟨rfl,hbp⟩
   clear p0 p1 p2 p3 p4 p5 p6 p7
   clear q0 q1 q2 q3 q4 q5 q6 q7 q8 q9 q10 q11
   clear g0
   have HVp:=qh (HVV.out.below hbp)
   have HOp:=qh (HOV.out.below hbp)
   have MK:Below W.heap.size W Vp:=ae zI hbp zI.size
   cases rp
   ·go_wp2_with fail
    go_roundw
    case rel=>exact⟨i+1,_,_,_,al,by omega,by go_num,rfl,HVp.out.mono omA,HOp.out.mono omA,MK⟩
    case measure=>exact meA
   have g0:=HVp.out.cell hkl
   rw[HLK.out]at g0
   simp only at g0
   have hXp:=HX.out.below hbp omA
   have HXp:=qh hXp
   have hzp:=hbp.size
   obtain⟨⟨q0,q1,q2,q3⟩,q4,⟨q5,q6,q7⟩,q8,q9,q10,q11⟩:=Chg.iR (x:=⟨kd,sq,dy,(k:Int),A0,cp,row,key,(j2:Int),vl⟩) hXp
   simp only at q0 q1 q2 q3 q4 q5 q6 q7 q8 q9 q10 q11
   obtain⟨tb6,to6,hTe,V7,Qz⟩:=(nR.out.next hbp).get hj
   injection hTe with hTe
   injection hTe with UQ UO
   subst UQ UO
   obtain⟨y0,y1,y2,y3,y4,y5⟩:=Alv.FM Qz
   have hax:=HVp.out.each k hkl
   rw[HLK.out]at hax
   have hax:=hax recs[j] (lgm hj)
   obtain⟨⟨⟨xk,xn,xt⟩,xs,xA,xc,xo,xB,xbc,xby⟩,hxe⟩:∃x:Alv,recs[j]=x:=⟨_,rfl⟩
   rw[hxe]at y0 y1 y2 y3 y4 y5 hax
   simp only[Nat.zero_add]at y0 y1 y2 y3 y4 y5
   have HAX:=qh hax
   have hj':decide (j<recs.length)=true:=by simpa using hj
   clear hXp Qz hxe hax
   go_upto_region 29 with (fail)
   refine au (P:=fun u=>Code.wp _ _ _ _ u) (R:=fun u=>Blk u Vp.heap.size 92 #[.int .i64 xk,.int .i64 xn,.string xt,.int .i64 xs,.slice xA xo.length xc,.slice xB xby.length xbc]∧Below Vp.heap.size Vp u) ⟨?_,?_⟩ ?_
   ·exact Blk.new' rfl
   ·exact av
   rintro wx ⟨hR9,hb9⟩
   have UR:=hR9.lt
   clear q0 q1 q2 q3 q4 q5 q6 q7 q8 q9 q10 q11
   clear g0 y0 y1 y2 y3 y4 y5
   have hz9:=hb9.size
   have HOR:=qh (HOp.out.below hb9)
   have hX9:=HXp.out.below hb9 omA
   obtain⟨⟨q0,q1,q2,q3⟩,q4,⟨q5,q6,q7⟩,q8,q9,q10,q11⟩:=Chg.iR (x:=⟨kd,sq,dy,(k:Int),A0,cp,row,key,(j2:Int),vl⟩) hX9
   simp only at q0 q1 q2 q3 q4 q5 q6 q7 q8 q9 q10 q11
   have y3:=hR9.cell 3
   have y5:=hR9.cell 5
   simp only[gE3]at y3 y5
   have hby:=HAX.out.by_
   have hbl:=HAX.out.FO
   simp only at hby hbl
   have hjb:j2<xby.length:=by rw[hbl];exact Rl
   have hjb':decide (j2<xby.length)=true:=by simpa using hjb
   obtain⟨bb,hbb⟩:=fA hby (Nat.lt_of_le_of_lt (Nat.zero_le _) hjb)
   subst hbb
   have UA:bb<Vp.heap.size:=hby.lt bb rfl
   have b0:=(hby.below hb9 nlr).fF wU rfl hjb (j:= 0) rfl
   have hye:=HAX.out.each xby[j2] (lgm hjb)
   obtain⟨⟨yA,yc,yo⟩,hyy⟩:∃y,xby[j2]=y:=⟨_,rfl⟩
   rw[hyy]at b0 hye
   simp only[Nat.mul_one,Nat.add_zero]at b0 hye
   have HYE:=qh hye
   have hol:=HOR.out.len
   have h8i:o.length≤100000:=by omega
   clear hX9 hR9 hby hbl hyy hye hol
   refine NH _ _ _ _ _ _ _ _ _ _ _ _ _ _ _ _ _ _ _ _ _ _ _ _ _ _ _ _ _ _ _ _ _ _ _ _ _ _ _ _ _ _ _ _ _ _ _ _ _ _ _ _ _ _ _ _ _ _ _ _ _ _ _ _ _ _ _ _ _ _ _ _ _ _ _ _ _ _ _ _ _ _ _ _ _ _ _ _ _ _ _ _ _ _ _ _ _ _ _ _ _ _ _ _ _ _ _ _ _ _ _ _ _ _ _ _ _ _ _ _ _ _ _ _ _ _ _ _ _ _ _ _ _ _ _ _ _ _ _ _ _ _ _ _ _ _ _ _ _ _ _ _ _ _ _ _ _ _ _ _ _ _ _ _ _ _ _ _ _ _ _ _ _ _ _ _ _ _ _ _ _ _ _ _ _ _ _ _ _ _ _ _ _ _ _ _ _ _ _ _ _ _ wr.heap.size Vp.heap.size k j2 bb _ _ sq dy vl.kind xs yA yc yo OA oc o wx q1 q2 q3 q8 q9 y3 y5 b0 omA UR omA hjb HOR.out.read.1 h8i _ (fun _ _ _ _ _ h=>h) ?_
   intro u6 Qf Qe Qd Qc Qb Qa P9 P8 P7 P6 P5 PZ PY u193 u194 PX u196 PW u198 PV PU u201 PT PS u1 OL
   obtain⟨NA,nc,rfl,hU1,hno⟩:=OL
   clear q0 q1 q2 q3 q4 q5 q6 q7 q8 q9 q10 q11
   clear y3 y5 b0
   have HN9:Hid (fe u1 W.heap.size NA nc (nL o ⟨(k:Int),(j2:Int),sq,xs,dy,yA,yc,yo,(vl.kind == 0),true⟩) (8*i+1)):=qh (HOR.out.put (by have h2:=MK.size;omega) hU1 hno (HYE.out.1.below hb9 nlr) ⟨(by
    have h1:=HYE.out.2
    have h2:8 ^ (k+1)≤8 ^ 5:=Nat.pow_le_pow_right omA omA
    have h3:(8:Nat) ^ 5=32768:=by decide
    show yo.length≤100000
    omega),HAX.out.sq⟩)
   have HV9:=qh ((HVp.out.below hb9).below hU1)
   have UB:=ae (ae MK hb9 MK.size) hU1 omA
   clear hno
   go_wp2_with fail
   go_roundw
   case rel=>exact⟨i+1,_,_,_,al,by omega,by go_num,rfl,HV9.out.mono omA,HN9.out.mono omA,UB⟩
   case measure=>exact meA
  ·have hk1:kd=1:=by simpa using hkd
   subst hk1
   clear hkd
   go_upto_region 14 with (fail)
   go_cut [61] from 51 to 61 (fun v61 wc=>v61=.bool (decide (z<0)&&decide (64≤recs.length))∧V=wc)
   case first =>
    by_cases hz0:z<0
    ·have hz0':decide (z<0)=true:=by simpa using hz0
     by_cases h64:64≤recs.length
     ·have yz:decide (64≤recs.length)=true:=by simpa using h64
      have Pb:decide ((64:Int)≤(recs.length:Int))=true:=by simp;omega
      clear hz0 h64
      go_wp2_with fail
      go_meet
      exact⟨by rw[hz0',yz];rfl,rfl⟩
     ·have yz:decide (64≤recs.length)=false:=by simpa using h64
      have Pb:decide ((64:Int)≤(recs.length:Int))=false:=by simp;omega
      clear hz0 h64
      go_wp2_with fail
      go_meet
      exact⟨by rw[hz0',yz];rfl,rfl⟩
    ·have hz0':decide (z<0)=false:=by simpa using hz0
     clear hz0
     go_wp2_with fail
     go_meet
     exact⟨by rw[hz0'];rfl,rfl⟩
   case rest =>
   obtain⟨rfl,rfl⟩:=hcut
   cases Rp:(decide (z<0)&&decide (64≤recs.length))
   rotate_left
   ·clear Rp
    go_wp2_with fail
    go_roundw
    case rel=>exact⟨i+1,_,_,_,al,by omega,by go_num,rfl,HVV.out.mono omA,HOV.out.mono omA,zI⟩
    case measure=>exact meA
   clear Rp
   go_wp2_with fail
   (with_reducible refine(Da A c ts.length ts (some ⟨W.heap.size,0,none⟩) ts.length ts.length al k sq dy A0 cp row key cl vl V (HT.out.next hxV) rfl HS.out HOK.out (HVV.out.read h5 omA) HAL.out HAL.out HVV.out.bd h5 HIN.out (HRV.out.next hxV)).mono ?_)
   rintro e V1 ⟨⟨⟨⟨xk,xn,xt⟩,xs,xA,xc,xo,xB,xbc,xby⟩,he,hxo⟩,RF⟩
   rw[show (Alv.cells ⟨⟨xk,xn,xt⟩,xs,xA,xc,xo,xB,xbc,xby⟩).toArray=#[.int .i64 xk,.int .i64 xn,.string xt,.int .i64 xs,.slice xA xo.length xc,.slice xB xby.length xbc] from rfl]at he
   subst he
   have TF:=RF.size
   have hWV:=zI.size
   have HXO:=qh (hxo.mono (base':=W.heap.size) hWV)
   clear p0 p1 p2 p3 p4 p5 p6 p7
   clear q0 q1 q2 q3 q4 q5 q6 q7 q8 q9 q10 q11
   clear g0 hxo
   obtain⟨Vo,rfl⟩:∃Vo:World,Vo=V:=⟨_,rfl⟩
   go_upto_if 67 with (fail)
   refine au (P:=fun u=>Code.wp _ _ _ _ u) (R:=fun u=>Blk u V1.heap.size 92 #[.int .i64 xk,.int .i64 xn,.string xt,.int .i64 xs,.slice xA xo.length xc,.slice xB xby.length xbc]∧Below V1.heap.size V1 u) ⟨?_,?_⟩ ?_
   ·exact Blk.new' rfl
   ·exact av
   rintro V ⟨hR2,hb2⟩
   have Xk:=hR2.lt
   have VS:=hb2.size
   have KR:Below Vo.heap.size Vo V:=ae RF hb2 TF
   have HR2:=qh hR2
   have HX2:=qh (HX.out.below KR omA)
   have HVV:=qh (HVV.out.below KR)
   have HOV:=qh (HOV.out.below KR)
   have HA2:=qh (HXO.out.below hb2)
   have nR:Hid (ah V V.heap.size Alv.cells 6 TA recs):=qh (nR.out.next KR)
   have hbW2:Below W.heap.size W V:=ae zI KR hWV
   have g0:=HVV.out.cell hkl
   rw[HLK.out]at g0
   simp only at g0
   have RS:=HX2.out
   obtain⟨⟨q0,q1,q2,q3⟩,q4,⟨q5,q6,q7⟩,q8,q9,q10,q11⟩:=Chg.iR (x:=⟨1,sq,dy,(k:Int),A0,cp,row,key,cl,vl⟩) RS
   simp only at q0 q1 q2 q3 q4 q5 q6 q7 q8 q9 q10 q11
   clear hR2 RS HXO
   go_cut [] from 66 to 89 (fun wc =>∃(al':List fM) (hk':k<al'.length),fI wc W.heap.size ts W.heap.size al' i∧fe wc W.heap.size OA oc o (8*i)∧Blk wc wr.heap.size 64 #[.int .i64 1,.int .i64 sq,.int .i64 dy,.int .i64 (k:Int),.slice A0 row.length cp,.int .i64 key.kind,.int .i64 key.num,.string key.text,.int .i64 cl,.int .i64 vl.kind,.int .i64 vl.num,.string vl.text]∧Blk wc V1.heap.size 92 #[.int .i64 xk,.int .i64 xn,.string xt,.int .i64 xs,.slice xA xo.length xc,.slice xB xby.length xbc]∧dh wc W.heap.size (dB ts (k:Int)).length (8 ^ (k+1)) ⟨⟨xk,xn,xt⟩,xs,xA,xc,xo,xB,xbc,xby⟩∧(∀a,al'[k].A=some a→a.block≠V1.heap.size)∧Below W.heap.size W wc)
   case first =>
    by_cases hz0:z<0
    ·have hz0':decide (0≤z)=false:=by simpa using hz0
     have HNE:Hid (∀a,al[k].A=some a→a.block≠V1.heap.size):=qh fun a ha=>by
      rw[HLK.out]at ha
      have ha:TA=some a:=ha
      have h1:=Py.out.lt a.block (by rw[ha];rfl)
      omega
     clear hz0
     rw[hz0']
     go_wp2_with fail
     go_meet
     exact⟨al,hkl,HVV.out,HOV.out,HX2.out,HR2.out,HA2.out,HNE.out,hbW2⟩
    ·obtain⟨j,hj,hje,_⟩:=mQ (p:=fun x:Alv=>decide (x.key=kv)) (l:=recs) (by rw[←gI,HZ.out];omega)
     rw[←gI,HZ.out]at hje
     subst hje
     have hz0':decide ((0:Int)≤(j:Int))=true:=by simp
     obtain⟨tb5,htb⟩:=fA Py.out (Nat.lt_of_le_of_lt (Nat.zero_le _) hj)
     subst htb
     clear hz0
     go_upto_region 17 with (fail)
     refine NL _ _ _ _ _ _ _ _ _ _ _ _ _ _ _ _ _ _ _ _ _ _ _ _ _ _ _ _ _ _ _ _ _ _ _ _ _ _ _ _ _ _ _ _ _ _ _ _ _ _ _ _ _ _ _ _ _ _ _ _ _ _ _ _ _ _ _ _ _ _ _ _ _ _ _ _ _ _ _ _ _ _ _ _ _ _ _ _ _ _ _ _ _ _ _ _ _ _ _ _ _ _ _ _ _ _ _ _ _ _ _ _ _ _ _ _ _ _ _ _ _ _ _ _ _ _ _ _ _ _ _ _ _ _ _ _ _ _ _ _ _ _ _ _ _ _ _ _ _ _ _ _ _ _ _ _ _ _ _ _ _ _ _ _ _ _ _ _ _ _ _ _ _ _ _ _ _ _ _ _ _ _ _ _ _ _ _ _ _ _ _ _ _ _ _ _ _ _ _ _ _ _ W.heap.size ts.length wr.heap.size k i W.heap.size tb5 tc j ts al recs OA oc o (8*i) V HVV.out HOV.out HAL.out hkl HLK.out hj q3 omA omA _ (fun _ _ _ _ _ h=>h) ?_
     intro u68 u69 u70 u71 u72 u73 u74 u75 u76 u77 u78 u79 u80 u81 u82 u83 u84 u85 u86 u87 u88 u89 V' OQ
     obtain⟨al2,h2,hV2,hO2,R7,hpa⟩:=OQ
     obtain⟨cs,hcs⟩:=HVV.out.tabs.typ (q:=W.heap.size) rfl
     have bz:Hid (∃(al':List fM) (hk':k<al'.length),fI V' W.heap.size ts W.heap.size al' i∧fe V' W.heap.size OA oc o (8*i)∧Blk V' wr.heap.size 64 #[.int .i64 1,.int .i64 sq,.int .i64 dy,.int .i64 (k:Int),.slice A0 row.length cp,.int .i64 key.kind,.int .i64 key.num,.string key.text,.int .i64 cl,.int .i64 vl.kind,.int .i64 vl.num,.string vl.text]∧Blk V' V1.heap.size 92 #[.int .i64 xk,.int .i64 xn,.string xt,.int .i64 xs,.slice xA xo.length xc,.slice xB xby.length xbc]∧dh V' W.heap.size (dB ts (k:Int)).length (8 ^ (k+1)) ⟨⟨xk,xn,xt⟩,xs,xA,xc,xo,xB,xbc,xby⟩∧(∀a,al'[k].A=some a→a.block≠V1.heap.size)∧Below W.heap.size W V'):=qh ⟨al2,h2,hV2,hO2,hpa.blk HX2.out omA,hpa.blk HR2.out omA,hpa.alv hcs HA2.out,fun a ha=>by have:=R7 a ha;omega,hpa.below hbW2 hbW2.size nlr⟩
     clear q0 q1 q2 q3 q4 q5 q6 q7 q8 q9 q10 q11
     clear g0 hV2 hO2 R7 hpa hcs h2
     go_wp2_with fail
     go_meet
     exact bz.out
   case rest =>
   clear q0 q1 q2 q3 q4 q5 q6 q7 q8 q9 q10 q11
   clear g0 HVV HOV HX2 HR2 HA2 nR
   obtain⟨al2,hk2,hV2,hO2,hX2,hR2,hA2,hne2,OY⟩:=hcut
   obtain⟨U3,rfl⟩:∃U3:World,U3=wc:=⟨_,rfl⟩
   clear hbW2
   have hbW2:=OY
   have HV2:=qh hV2
   have HO2:=qh hO2
   have HX2:=qh hX2
   have HR2:=qh hR2
   have HA2:=qh hA2
   have UJ:=hX2.lt
   have UU:=hR2.lt
   have VN:=OY.size
   have g0:=hV2.cell hk2
   obtain⟨⟨TA2,tc2,nK⟩,hlk2⟩:∃x:fM,al2[k]=x:=⟨_,rfl⟩
   have Na:=qh hlk2
   have Vu:Hid (∀a,TA2=some a→a.block≠V1.heap.size):=qh (by rw[hlk2]at hne2;exact hne2)
   have HL2:=qh hV2.len
   obtain⟨⟨q0,q1,q2,q3⟩,q4,⟨q5,q6,q7⟩,q8,q9,q10,q11⟩:=Chg.iR (x:=⟨1,sq,dy,(k:Int),A0,cp,row,key,cl,vl⟩) hX2
   simp only at q0 q1 q2 q3 q4 q5 q6 q7 q8 q9 q10 q11
   clear hV2 hO2 hX2 hR2 hA2 hlk2 hne2 OY g0
   go_upto_region 18 with (fail)
   refine NK _ _ _ _ _ _ _ _ _ _ _ _ _ _ _ _ _ _ _ _ _ _ _ _ _ _ _ _ _ _ _ _ _ _ _ _ _ _ _ _ _ _ _ _ _ _ _ _ _ _ _ _ _ _ _ _ _ _ _ _ _ _ _ _ _ _ _ _ _ _ _ _ _ _ _ _ _ _ _ _ _ _ _ _ _ _ _ _ _ _ _ _ _ _ _ _ _ _ _ _ _ _ _ _ _ _ _ _ _ _ _ _ _ _ _ _ _ _ _ _ _ _ _ _ _ _ _ _ _ _ _ _ _ _ _ _ _ _ _ _ _ _ _ _ _ _ _ _ _ _ _ _ _ _ _ _ _ _ _ _ _ _ _ _ _ _ _ _ _ _ _ _ _ _ _ _ _ _ _ _ _ _ _ _ _ _ _ _ _ _ _ _ _ _ _ _ _ _ _ _ _ _ W.heap.size ts.length wr.heap.size V1.heap.size k i W.heap.size ts al2 TA2 tc2 nK xk xn xt xs xA xc xo xB xbc xby OA oc o (8*i) #[.int .i64 1,.int .i64 sq,.int .i64 dy,.int .i64 (k:Int),.slice A0 row.length cp,.int .i64 key.kind,.int .i64 key.num,.string key.text,.int .i64 cl,.int .i64 vl.kind,.int .i64 vl.num,.string vl.text] U3 HV2.out HO2.out HL2.out hk2 Na.out HX2.out q3 HR2.out HA2.out Vu.out omA omA omA _ (fun _ _ _ _ _ h=>h) ?_
   intro u90 u91 u92 u93 u94 u95 u96 u97 u98 u99 CK CJ U4 OP
   obtain⟨⟨al3,hV4⟩,hO4,hX4,hR4,hA4,hB4⟩:=OP
   have RD:=hB4 W hbW2 nlr
   have HV4:=qh hV4
   have HO4:=qh hO4
   have HX4:=qh hX4
   have HR4:=qh hR4
   have HA4:=qh hA4
   clear q0 q1 q2 q3 q4 q5 q6 q7 q8 q9 q10 q11
   clear hV4 hO4 hA4 hX4 hR4 hB4
   have ML:=HX4.out.lt
   have UT:=HR4.out.lt
   have TD:=RD.size
   go_wp2_with fail
   obtain⟨wo,rfl⟩:∃wo:World,wo=wr:=⟨_,rfl⟩
   go_loopw [6,12] (fun v6 v12 wr =>∃(i2:Nat) (OA2:Option Addr) (oc2:Nat) (o2:List aF),i2≤row.length∧v12=.int .i64 i2∧v6=.slice OA2 o2.length oc2∧fe wr W.heap.size OA2 oc2 o2 (8*i+i2)∧Below U4.heap.size U4 wr) (fun _ v12 _=>row.length-(intOf v12).toNat)
   case atStart=>exact⟨0,OA,oc,o,Nat.zero_le _,rfl,rfl,HO4.out,Below.refl _ _⟩
   case round =>
    clear HO4
    obtain⟨i2,OA2,oc2,o2,hi2,rfl,rfl,hO5,hbx⟩:=hrel
    obtain⟨wx,rfl⟩:∃wx:World,wx=wr:=⟨_,rfl⟩
    have HOR:=qh hO5
    have hzx:=hbx.size
    have OX:Below W.heap.size W wx:=ae RD hbx TD
    have hxx:Below w.heap.size w wx:=ae hbW OX hbW.size
    have hXx:=HX4.out.below hbx ML
    have HVX:=qh (HV4.out.below hbx)
    obtain⟨⟨q0,q1,q2,q3⟩,q4,⟨q5,q6,q7⟩,q8,q9,q10,q11⟩:=Chg.iR (x:=⟨1,sq,dy,(k:Int),A0,cp,row,key,cl,vl⟩) hXx
    simp only at q0 q1 q2 q3 q4 q5 q6 q7 q8 q9 q10 q11
    clear hO5 hXx
    by_cases hlt2:i2<row.length
    rotate_left
    ·have Rh:decide (i2<row.length)=false:=by simpa using hlt2
     go_wp2_with fail
     go_roundw
     case rel=>exact⟨i+1,_,_,_,_,by omega,by go_num,rfl,HVX.out,HOR.out.mono omA,OX⟩
     case measure=>exact meA
    have Rh:decide (i2<row.length)=true:=by simpa using hlt2
    have hcx:i2<ts[k].af.length:=by
     have h1:=HIN.out.ins rfl
     rw[HCA.out]at h1
     simp only at h1
     omega
    obtain⟨rp,hrp⟩:∃rp,persB ts k i2=rp:=⟨_,rfl⟩
    have HRP:=qh hrp
    have hCx:=HC.out.below OX hzW
    obtain⟨p0,p1,p2,p3,p4,p5,p6,p7⟩:=Cat.blk hCx
    clear hrp hCx
    go_wp2_with fail
    (with_reducible refine(pE A c ts.length ts k i2 _ (HT.out.next hxx) rfl HS.out HOK.out hk hcx HRP.out).mono ?_)
    rintro e Vq ⟨rfl,hbq⟩
    clear p0 p1 p2 p3 p4 p5 p6 p7
    clear q0 q1 q2 q3 q4 q5 q6 q7 q8 q9 q10 q11
    have wL:Below U4.heap.size U4 Vq:=ae hbx hbq hzx
    cases rp
    ·go_wp2_with fail
     go_roundw
     case rel=>exact⟨i2+1,OA2,oc2,o2,by omega,by go_num,rfl,(HOR.out.below hbq).mono omA,wL⟩
     case measure=>exact meA
    obtain⟨wp,rfl⟩:∃wp:World,wp=wx:=⟨_,rfl⟩
    obtain⟨wx,rfl⟩:∃wx:World,wx=Vq:=⟨_,rfl⟩
    have hzq:=wL.size
    have HOR:=qh (HOR.out.below hbq)
    have hXx:=HX4.out.below wL ML
    obtain⟨⟨q0,q1,q2,q3⟩,q4,⟨q5,q6,q7⟩,q8,q9,q10,q11⟩:=Chg.iR (x:=⟨1,sq,dy,(k:Int),A0,cp,row,key,cl,vl⟩) hXx
    simp only at q0 q1 q2 q3 q4 q5 q6 q7 q8 q9 q10 q11
    have hRx:=HR4.out.below wL UT
    have y5:=hRx.cell 5
    simp only[gE3]at y5
    have hby:=HA4.out.by_
    have hbl:=HA4.out.FO
    simp only at hby hbl
    have hjb:i2<xby.length:=by rw[hbl,HCA.out];exact hcx
    have hjb':decide (i2<xby.length)=true:=by simpa using hjb
    obtain⟨bb,hbb⟩:=fA hby (Nat.lt_of_le_of_lt (Nat.zero_le _) hjb)
    subst hbb
    have UA:bb<U4.heap.size:=hby.lt bb rfl
    have b0:=(hby.below wL nlr).fF wU rfl hjb (j:= 0) rfl
    have hye:=HA4.out.each xby[i2] (lgm hjb)
    obtain⟨⟨yA,yc,yo⟩,hyy⟩:∃y,xby[i2]=y:=⟨_,rfl⟩
    rw[hyy]at b0 hye
    simp only[Nat.mul_one,Nat.add_zero]at b0 hye
    have HYE:=qh hye
    obtain⟨b5,o5,hRe,hb5,hc5⟩:=(HRV.out.below (ae hxx hbq hxx.size)).get hlt2
    obtain⟨v0,_,_⟩:=Val.cells3 hc5
    obtain⟨⟨kk,kn,kt⟩,hkv⟩:∃v:Val,row[i2]=v:=⟨_,rfl⟩
    rw[hkv]at v0
    simp only[Nat.add_zero]at v0
    subst hRe
    have hzw:=hbW.size
    have hol:=HOR.out.len
    have h8i:o2.length≤100000:=by omega
    clear hXx hRx hby hbl hyy hye hol hc5 hkv
    go_upto_region 23 with (fail)
    refine NJ _ _ _ _ _ _ _ _ _ _ _ _ _ _ _ _ _ _ _ _ _ _ _ _ _ _ _ _ _ _ _ _ _ _ _ _ _ _ _ _ _ _ _ _ _ _ _ _ _ _ _ _ _ _ _ _ _ _ _ _ _ _ _ _ _ _ _ _ _ _ _ _ _ _ _ _ _ _ _ _ _ _ _ _ _ _ _ _ _ _ _ _ _ _ _ _ _ _ _ _ _ _ _ _ _ _ _ _ _ _ _ _ _ _ _ _ _ _ _ _ _ _ _ _ _ _ _ _ _ _ _ _ _ _ _ _ _ _ _ _ _ _ _ _ _ _ _ _ _ _ _ _ _ _ _ _ _ _ _ _ _ _ _ _ _ _ _ _ _ _ _ _ _ _ _ _ _ _ _ _ _ _ _ _ _ _ _ _ _ _ _ _ _ _ _ _ _ _ _ _ _ wo.heap.size V1.heap.size k i2 bb b5 o5 _ cp _ _ sq dy kk yA yc yo OA2 oc2 o2 wx q1 q2 q3 q4 y5 b0 v0 omA omA omA omA hlt2 hjb HOR.out.read.1 h8i _ (fun _ _ _ _ _ h=>h) ?_
    intro u6 CG CF CE CB Cz u119 Cy Cx Cw Cv u124 Cu Ct u127 Cs Cr Cq u131 Co Qh GZ GY GX GV u138 u1 OO
    obtain⟨NA,nc,rfl,hU1,hno⟩:=OO
    clear q0 q1 q2 q3 q4 q5 q6 q7 q8 q9 q10 q11
    clear y5 b0 v0
    have HN9:Hid (fe u1 W.heap.size NA nc (nL o2 ⟨(k:Int),(i2:Int),sq,sq,dy,yA,yc,yo,(kk == 0),true⟩) (8*i+i2+1)):=qh (HOR.out.put omA hU1 hno (HYE.out.1.below wL nlr) ⟨(by
     have h1:=HYE.out.2
     have h2:8 ^ (k+1)≤8 ^ 5:=Nat.pow_le_pow_right omA omA
     have h3:(8:Nat) ^ 5=32768:=by decide
     show yo.length≤100000
     omega),(by
     have h1:=HIN.out.seq
     simp only[aG,Bool.and_eq_true,decide_eq_true_eq]at h1
     exact h1)⟩)
    have hbN:=ae wL hU1 hzq
    clear hno
    go_wp2_with fail
    go_roundw
    case rel=>exact⟨i2+1,NA,nc,_,by omega,by go_num,rfl,HN9.out,hbN⟩
    case measure=>exact meA
end Go.Proofs.YtebippoohpnjkaaGreat
