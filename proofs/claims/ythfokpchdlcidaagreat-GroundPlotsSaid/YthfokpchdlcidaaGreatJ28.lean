/- What the statements rest on: definitions and walks, part 28. -/
import Derived.Test.YthfokpchdlcidaaGreatJ27
set_option maxRecDepth 100000
set_option maxHeartbeats 16000000
set_option linter.unusedSimpArgs false
set_option linter.unusedVariables false
namespace Go.Proofs.YthfokpchdlcidaaGreat
open Go Go.RowKit Go.Shelf
theorem run_four (s t:Sd) {k:Nat} (hk:k<4) (w:World):(Instr.index 166 (.agg #[.int .i64 s.a.x,.int .i64 s.a.y,.int .i64 s.b.x,.int .i64 s.b.y,.int .i64 t.a.x,.int .i64 t.a.y,.int .i64 t.b.x,.int .i64 t.b.y]) (.int .i64 (k:Int))).run Tryz.prog w=.ok (.agg #[.int .i64 ((fourR s t)[k]?.getD Cal.pt0).x,.int .i64 ((fourR s t)[k]?.getD Cal.pt0).y]) w:=by
 rcases (show k=0∨k=1∨k=2∨k=3 from by omega) with rfl | rfl | rfl | rfl <;> kernel_rfl
def comRT (s t:Sd):Sd × Bool:=((Cal.commonR s t).getD ⟨Cal.pt0,Cal.pt0⟩,(Cal.commonR s t).isSome)
theorem comRT_no1 {s t:Sd} (h:Cal.crs s t.a≠0∨Cal.crs s t.b≠0):comRT s t=(⟨Cal.pt0,Cal.pt0⟩,false):=by
 unfold comRT Cal.commonR
 rw[if_pos h];rfl
theorem endsTo_all (s t:Sd):endsTo s t 4=Cal.endsR s t:=rfl
theorem comRT_no2 {s t:Sd} (h1:Cal.crs s t.a=0) (h2:Cal.crs s t.b=0) (h:(Cal.endsR s t).length<2):comRT s t=(⟨Cal.pt0,Cal.pt0⟩,false):=by
 unfold comRT Cal.commonR
 rw[if_neg (by omega),if_pos h];rfl
theorem comRT_two {s t:Sd} (h1:Cal.crs s t.a=0) (h2:Cal.crs s t.b=0) {x y:Pt} (h:Cal.endsR s t=[x,y]):comRT s t=(if Cal.farR s.a y<Cal.farR s.a x then (⟨y,x⟩,true) else (⟨x,y⟩,true)):=by
 unfold comRT Cal.commonR
 rw[if_neg (by omega),h,if_neg (show ¬[x,y].length<2 from by simp)]
 show ((if Cal.farR s.a y<Cal.farR s.a x then some (⟨y,x⟩:Sd) else some ⟨x,y⟩).getD _,(if Cal.farR s.a y<Cal.farR s.a x then some (⟨y,x⟩:Sd) else some ⟨x,y⟩).isSome)=_
 split <;> rfl
theorem commonR_any (s t:Sd) (w:World) (hs:SmS s) (ht:SmS t) :
  Calls Tryz.prog 94 #[.agg #[.int .i64 s.a.x,.int .i64 s.a.y,.int .i64 s.b.x,.int .i64 s.b.y],.agg #[.int .i64 t.a.x,.int .i64 t.a.y,.int .i64 t.b.x,.int .i64 t.b.y]] w fun e w'=>e=.returned (.tuple #[.agg #[.int .i64 (comRT s t).1.a.x,.int .i64 (comRT s t).1.a.y,.int .i64 (comRT s t).1.b.x,.int .i64 (comRT s t).1.b.y],.bool (comRT s t).2])∧Below w.heap.size w w':=by
 obtain⟨R,hRR⟩:∃ R,comRT s t=R:=⟨_,rfl⟩
 rw[hRR]
 have hc1:Hid (∀ W,Calls Tryz.prog 93 #[.agg #[.int .i64 s.a.x,.int .i64 s.a.y],.agg #[.int .i64 s.b.x,.int .i64 s.b.y],.agg #[.int .i64 t.a.x,.int .i64 t.a.y]] W fun e w'=>e=.returned (.int .i64 (Cal.crs s t.a))∧Below W.heap.size W w'):=fun W=>crossR_any s.a s.b t.a W hs.a hs.b ht.a
 have hc2:Hid (∀ W,Calls Tryz.prog 93 #[.agg #[.int .i64 s.a.x,.int .i64 s.a.y],.agg #[.int .i64 s.b.x,.int .i64 s.b.y],.agg #[.int .i64 t.b.x,.int .i64 t.b.y]] W fun e w'=>e=.returned (.int .i64 (Cal.crs s t.b))∧Below W.heap.size W w'):=fun W=>crossR_any s.a s.b t.b W hs.a hs.b ht.b
 have hI:=Lib.hid (CmI.firstR w s t)
 by_cases h1:Cal.crs s t.a=0
 rotate_left
 ·have hR:Hid (R=(⟨Cal.pt0,Cal.pt0⟩,false)):=by show _=_;rw[←hRR,comRT_no1 (Or.inl h1)]
  have h1b:(Cal.crs s t.a != 0)=true:=by simpa using h1
  clear hRR hc2
  generalize Cal.crs s t.a=X at *
  (obtain⟨a0,a1,a2,a3⟩:=hI.out.s.c4;obtain⟨b0,b1,b2,b3⟩:=hI.out.t.c4)
  go_enter Tryz.func94,Tryz.ntmps94
  go_wp2_with (first | (go_at_call 93;refine (hc1.out _).mono ?_;clear hc1;clear a0 a1 a2 a3 b0 b1 b2 b3;rintro e wn ⟨rfl,hbn⟩;replace hI:=Lib.hid (hI.out.below hbn);clear hbn;(obtain⟨a0,a1,a2,a3⟩:=hI.out.s.c4;obtain⟨b0,b1,b2,b3⟩:=hI.out.t.c4)) | (refine wpList_store_box rfl 90 (.tmp 4) (.tmp 27) rfl (w.heap.size+1+1) _ [.int .i64 0,.int .i64 0,.int .i64 0,.int .i64 0] (by rfl) (by rfl) hI.out.z rfl sgSize (by kernel_rfl) ?_;intro w5 hz5 hg5;have hb5:=Lib.hid (below_of_grownB hI.out.bel hg5 (by omega))))
  refine bodyPost_ret (results_mid2 rfl _ _ (w.heap.size+1+1) [.int .i64 0,.int .i64 0,.int .i64 0,.int .i64 0] _ rfl hz5.range Tryz.underlying90 rfl sgSize) rfl ⟨by rw[hR.out];rfl,hb5.out⟩
 by_cases h2:Cal.crs s t.b=0
 rotate_left
 ·have hR:Hid (R=(⟨Cal.pt0,Cal.pt0⟩,false)):=by show _=_;rw[←hRR,comRT_no1 (Or.inr h2)]
  rw[h1] at hc1
  have h2b:(Cal.crs s t.b != 0)=true:=by simpa using h2
  clear hRR h1
  generalize Cal.crs s t.b=X at *
  (obtain⟨a0,a1,a2,a3⟩:=hI.out.s.c4;obtain⟨b0,b1,b2,b3⟩:=hI.out.t.c4)
  go_enter Tryz.func94,Tryz.ntmps94
  go_wp2_with (first | (go_at_call 93;refine (hc1.out _).mono ?_;clear hc1;clear a0 a1 a2 a3 b0 b1 b2 b3;rintro e wn ⟨rfl,hbn⟩;replace hI:=Lib.hid (hI.out.below hbn);clear hbn;(obtain⟨a0,a1,a2,a3⟩:=hI.out.s.c4;obtain⟨b0,b1,b2,b3⟩:=hI.out.t.c4)) | (go_at_call 93;refine (hc2.out _).mono ?_;clear hc2;clear a0 a1 a2 a3 b0 b1 b2 b3;rintro e wn ⟨rfl,hbn⟩;replace hI:=Lib.hid (hI.out.below hbn);clear hbn;(obtain⟨a0,a1,a2,a3⟩:=hI.out.s.c4;obtain⟨b0,b1,b2,b3⟩:=hI.out.t.c4)) | (refine wpList_store_box rfl 90 (.tmp 4) (.tmp 27) rfl (w.heap.size+1+1) _ [.int .i64 0,.int .i64 0,.int .i64 0,.int .i64 0] (by rfl) (by rfl) hI.out.z rfl sgSize (by kernel_rfl) ?_;intro w5 hz5 hg5;have hb5:=Lib.hid (below_of_grownB hI.out.bel hg5 (by omega))))
  refine bodyPost_ret (results_mid2 rfl _ _ (w.heap.size+1+1) [.int .i64 0,.int .i64 0,.int .i64 0,.int .i64 0] _ rfl hz5.range Tryz.underlying90 rfl sgSize) rfl ⟨by rw[hR.out];rfl,hb5.out⟩
 rw[h1] at hc1
 rw[h2] at hc2
 have hR0:=Lib.hid hRR
 replace h1:=Lib.hid h1
 replace h2:=Lib.hid h2
 have hsm:=Lib.hid (endsTo_sm hs ht)
 have hsf:=Lib.hid (fourR_sm hs ht)
 clear hRR
 (obtain⟨a0,a1,a2,a3⟩:=hI.out.s.c4;obtain⟨b0,b1,b2,b3⟩:=hI.out.t.c4)
 go_enter Tryz.func94,Tryz.ntmps94
 go_wp2_with (first | (go_at_call 93;refine (hc1.out _).mono ?_;clear hc1;clear a0 a1 a2 a3 b0 b1 b2 b3;rintro e wn ⟨rfl,hbn⟩;replace hI:=Lib.hid (hI.out.below hbn);clear hbn;(obtain⟨a0,a1,a2,a3⟩:=hI.out.s.c4;obtain⟨b0,b1,b2,b3⟩:=hI.out.t.c4)) | (go_at_call 93;refine (hc2.out _).mono ?_;clear hc2;clear a0 a1 a2 a3 b0 b1 b2 b3;rintro e wn ⟨rfl,hbn⟩;replace hI:=Lib.hid (hI.out.below hbn);clear hbn;(obtain⟨a0,a1,a2,a3⟩:=hI.out.s.c4;obtain⟨b0,b1,b2,b3⟩:=hI.out.t.c4)))
 clear a0 a1 a2 a3 b0 b1 b2 b3
 have hb0:Hid (Below wn.heap.size wn wn):=Below.refl _ _
 have hO0:Hid (OwnL wn wn.heap.size 27 2 (.slice none 0 0) ((endsTo s t 0).map ptR)):=OwnL.nil _ _ _ _
 have hwn:Hid (w.heap.size+1+1<wn.heap.size):=hI.out.z.lt
 generalize hX:wn=w1 at *
 have hI0:=hI
 clear hI
 clear hX wn
 go_loopw [6,37] (fun ev kv wr=>∃ (k:Nat) (v:Value),k≤4∧kv=.int .i64 k∧ev=v∧Hid (OwnL wr w1.heap.size 27 2 v ((endsTo s t k).map ptR))∧Hid (Below w1.heap.size w1 wr)) (fun _ kv _=>4-(intOf kv).toNat)
 case atStart=>exact⟨0,_,Nat.zero_le _,rfl,rfl,hO0,hb0⟩
 case round =>
  clear hb0 hO0
  obtain⟨k,v,hk,rfl,rfl,hO,hb⟩:=hrel
  by_cases hlt:k<4
  ·have hI:=Lib.hid ((hI0.out.below hb.out).below (below_alloc wr (.cells #[.int .i64 ((fourR s t)[k]?.getD Cal.pt0).x,.int .i64 ((fourR s t)[k]?.getD Cal.pt0).y] 27)))
   have hix:=run_four s t hlt
   have hqs:SmP ((fourR s t)[k]?.getD Cal.pt0):=by
    rw[List.getElem?_eq_getElem (show k<(fourR s t).length from hlt)]
    exact hsf.out _ (List.getElem_mem _)
   have hst0:=endsTo_succ (s:=s) (t:=t) hlt
   have hacl:=endsTo_len s t k hk
   have hacs:=hsm.out k hk
   have hqB:=BoxAt.new wr #[.int .i64 ((fourR s t)[k]?.getD Cal.pt0).x,.int .i64 ((fourR s t)[k]?.getD Cal.pt0).y] 27
   generalize (fourR s t)[k]?.getD Cal.pt0=q at *
   obtain⟨e0,e1⟩:=hqB.c2
   have e0':=Lib.hid e0
   have e1':=Lib.hid e1
   clear hqB
   have hn1:Hid (∀ W,Calls Tryz.prog 85 #[.agg #[.int .i64 s.a.x,.int .i64 s.a.y,.int .i64 s.b.x,.int .i64 s.b.y],.agg #[.int .i64 q.x,.int .i64 q.y]] W fun e w'=>e=.returned (.bool (Cal.hasP s q))∧Below W.heap.size W w'):=fun W=>OnR_any s q W hs hqs
   have hn2:Hid (∀ W,Calls Tryz.prog 85 #[.agg #[.int .i64 t.a.x,.int .i64 t.a.y,.int .i64 t.b.x,.int .i64 t.b.y],.agg #[.int .i64 q.x,.int .i64 q.y]] W fun e w'=>e=.returned (.bool (Cal.hasP t q))∧Below W.heap.size W w'):=fun W=>OnR_any t q W ht hqs
   have hst:Hid (endsTo s t (k+1)=if (Cal.hasP s q && Cal.hasP t q) && ((endsTo s t k).isEmpty || !ptB q ((endsTo s t k)[0]?.getD Cal.pt0)) && decide ((endsTo s t k).length<2) then endsTo s t k ++ [q] else endsTo s t k):=hst0
   clear hst0
   generalize endsTo s t k=acc at *
   generalize Cal.hasP s q=x1 at *
   generalize Cal.hasP t q=x2 at *
   (obtain⟨a0,a1,a2,a3⟩:=hI.out.s.c4;obtain⟨b0,b1,b2,b3⟩:=hI.out.t.c4)
   cases x1
   ·replace hst:Hid (endsTo s t (k+1)=acc):=by show _=_;rw[hst.out];simp
    go_wp2_with fail
    refine wp_region_held_drew (S:=Sx (wr.alloc (.cells #[.int .i64 q.x,.int .i64 q.y] 27)) [(w.heap.size,0,.int .i64 s.a.x),(w.heap.size,1,.int .i64 s.a.y),(w.heap.size,2,.int .i64 s.b.x),(w.heap.size,3,.int .i64 s.b.y),(w.heap.size+1,0,.int .i64 t.a.x),(w.heap.size+1,1,.int .i64 t.a.y),(w.heap.size+1,2,.int .i64 t.b.x),(w.heap.size+1,3,.int .i64 t.b.y),(wr.heap.size,0,.int .i64 q.x),(wr.heap.size,1,.int .i64 q.y)]) (by kernel_rfl) (Sx.mk (by simp only[cs_iff_cons];exact⟨a0,a1,a2,a3,b0,b1,b2,b3,e0,e1,cs_nil _⟩) (Below.refl _ _)).drew (fun hHeld=>?_)
    clear a0 a1 a2 a3 b0 b1 b2 b3
    clear e0 e1
    generalize (wr.alloc (.cells #[.int .i64 q.x,.int .i64 q.y] 27)).drew=Y at *
    refine tkHx 0 40 ?_
    refine tkHx 1 41 ?_
    (refine ratHx 2 (fun K hK=>?_);go_simp)
    refine (hn1.out _).mono ?_
    rintro e wn ⟨rfl,hbn⟩
    go_simp
    (refine hK.out _ _ (hHeld.step hbn) (fun hHeld=>?_);clear hK K;(try simp only[apS,apN,siA,scZ,scS]))
    refine tkHx 3 43 ?_
    refine tkFx 4 44 ?_
    refine tkFx 5 45 ?_
    refine tkFx 6 46 ?_
    refine tkHx 7 47 ?_
    refine tkHx 8 48 ?_
    refine tkFx 9 49 ?_
    refine tkFx 10 50 ?_
    refine tkFx 11 51 ?_
    refine tkFx 12 52 ?_
    refine tkFx 13 53 ?_
    refine tkFx 14 54 ?_
    refine tkFx 15 55 ?_
    refine tkFx 16 56 ?_
    refine tkFx 17 57 ?_
    refine tkFx 18 58 ?_
    refine tkHx 19 59 ?_
    refine tkHx 20 60 ?_
    refine tkFx 21 61 ?_
    refine tkFx 22 62 ?_
    refine tkFx 23 63 ?_
    refine tkHx 24 64 ?_
    refine wpAnyH_done (by kernel_rfl) ?_ _
    (try simp only[apS,apN,siA,scZ,scS])
    have hbe:=Lib.hid (hb.out.trans ((below_alloc wr (.cells #[.int .i64 q.x,.int .i64 q.y] 27)).mono hb.out.size))
    have hbf:=Lib.hid (hbe.out.trans (hHeld.bel.mono hbe.out.size))
    have hO2:=Lib.hid (OwnL.below (OwnL.below hO.out (below_alloc wr (.cells #[.int .i64 q.x,.int .i64 q.y] 27))) hHeld.bel)
    clear hHeld hbe hO
    go_wp2_with fail
    go_roundw
    case rel=>exact⟨k+1,_,by omega,by go_num,rfl,by rw[hst.out];exact hO2,hbf⟩
    case measure=>simp[intOf];omega
   cases x2
   ·replace hst:Hid (endsTo s t (k+1)=acc):=by show _=_;rw[hst.out];simp
    go_wp2_with fail
    refine wp_region_held_drew (S:=Sx (wr.alloc (.cells #[.int .i64 q.x,.int .i64 q.y] 27)) [(w.heap.size,0,.int .i64 s.a.x),(w.heap.size,1,.int .i64 s.a.y),(w.heap.size,2,.int .i64 s.b.x),(w.heap.size,3,.int .i64 s.b.y),(w.heap.size+1,0,.int .i64 t.a.x),(w.heap.size+1,1,.int .i64 t.a.y),(w.heap.size+1,2,.int .i64 t.b.x),(w.heap.size+1,3,.int .i64 t.b.y),(wr.heap.size,0,.int .i64 q.x),(wr.heap.size,1,.int .i64 q.y)]) (by kernel_rfl) (Sx.mk (by simp only[cs_iff_cons];exact⟨a0,a1,a2,a3,b0,b1,b2,b3,e0,e1,cs_nil _⟩) (Below.refl _ _)).drew (fun hHeld=>?_)
    clear a0 a1 a2 a3 b0 b1 b2 b3
    clear e0 e1
    generalize (wr.alloc (.cells #[.int .i64 q.x,.int .i64 q.y] 27)).drew=Y at *
    refine tkHx 0 40 ?_
    refine tkHx 1 41 ?_
    (refine ratHx 2 (fun K hK=>?_);go_simp)
    refine (hn1.out _).mono ?_
    rintro e wn ⟨rfl,hbn⟩
    go_simp
    (refine hK.out _ _ (hHeld.step hbn) (fun hHeld=>?_);clear hK K;(try simp only[apS,apN,siA,scZ,scS]))
    refine tkHx 3 43 ?_
    refine tkHx 4 44 ?_
    refine tkHx 5 45 ?_
    (refine ratHx 6 (fun K hK=>?_);go_simp)
    refine (hn2.out _).mono ?_
    rintro e wn ⟨rfl,hbn⟩
    go_simp
    (refine hK.out _ _ (hHeld.step hbn) (fun hHeld=>?_);clear hK K;(try simp only[apS,apN,siA,scZ,scS]))
    refine tkHx 7 47 ?_
    refine tkHx 8 48 ?_
    refine tkFx 9 49 ?_
    refine tkFx 10 50 ?_
    refine tkFx 11 51 ?_
    refine tkFx 12 52 ?_
    refine tkFx 13 53 ?_
    refine tkFx 14 54 ?_
    refine tkFx 15 55 ?_
    refine tkFx 16 56 ?_
    refine tkFx 17 57 ?_
    refine tkFx 18 58 ?_
    refine tkHx 19 59 ?_
    refine tkHx 20 60 ?_
    refine tkFx 21 61 ?_
    refine tkFx 22 62 ?_
    refine tkFx 23 63 ?_
    refine tkHx 24 64 ?_
    refine wpAnyH_done (by kernel_rfl) ?_ _
    (try simp only[apS,apN,siA,scZ,scS])
    have hbe:=Lib.hid (hb.out.trans ((below_alloc wr (.cells #[.int .i64 q.x,.int .i64 q.y] 27)).mono hb.out.size))
    have hbf:=Lib.hid (hbe.out.trans (hHeld.bel.mono hbe.out.size))
    have hO2:=Lib.hid (OwnL.below (OwnL.below hO.out (below_alloc wr (.cells #[.int .i64 q.x,.int .i64 q.y] 27))) hHeld.bel)
    clear hHeld hbe hO
    go_wp2_with fail
    go_roundw
    case rel=>exact⟨k+1,_,by omega,by go_num,rfl,by rw[hst.out];exact hO2,hbf⟩
    case measure=>simp[intOf];omega
   obtain⟨A6,c6,e6,hr6⟩:=OwnL.form hO.out
   rw[List.length_map] at e6
   subst e6
   match acc,hacl with
   | [],_ =>
    replace hst:Hid (endsTo s t (k+1)=[q]):=by show _=_;rw[hst.out];rfl
    go_wp2_with fail
    refine wp_region_held_drew (S:=Sx (wr.alloc (.cells #[.int .i64 q.x,.int .i64 q.y] 27)) [(w.heap.size,0,.int .i64 s.a.x),(w.heap.size,1,.int .i64 s.a.y),(w.heap.size,2,.int .i64 s.b.x),(w.heap.size,3,.int .i64 s.b.y),(w.heap.size+1,0,.int .i64 t.a.x),(w.heap.size+1,1,.int .i64 t.a.y),(w.heap.size+1,2,.int .i64 t.b.x),(w.heap.size+1,3,.int .i64 t.b.y),(wr.heap.size,0,.int .i64 q.x),(wr.heap.size,1,.int .i64 q.y)]) (by kernel_rfl) (Sx.mk (by simp only[cs_iff_cons];exact⟨a0,a1,a2,a3,b0,b1,b2,b3,e0,e1,cs_nil _⟩) (Below.refl _ _)).drew (fun hHeld=>?_)
    clear a0 a1 a2 a3 b0 b1 b2 b3
    clear e0 e1
    generalize (wr.alloc (.cells #[.int .i64 q.x,.int .i64 q.y] 27)).drew=Y at *
    refine tkHx 0 40 ?_
    refine tkHx 1 41 ?_
    (refine ratHx 2 (fun K hK=>?_);go_simp)
    refine (hn1.out _).mono ?_
    rintro e wn ⟨rfl,hbn⟩
    go_simp
    (refine hK.out _ _ (hHeld.step hbn) (fun hHeld=>?_);clear hK K;(try simp only[apS,apN,siA,scZ,scS]))
    refine tkHx 3 43 ?_
    refine tkHx 4 44 ?_
    refine tkHx 5 45 ?_
    (refine ratHx 6 (fun K hK=>?_);go_simp)
    refine (hn2.out _).mono ?_
    rintro e wn ⟨rfl,hbn⟩
    go_simp
    (refine hK.out _ _ (hHeld.step hbn) (fun hHeld=>?_);clear hK K;(try simp only[apS,apN,siA,scZ,scS]))
    refine tkHx 7 47 ?_
    refine tkHx 8 48 ?_
    refine tkHx 9 49 ?_
    refine tkHx 10 50 ?_
    refine tkHx 11 51 ?_
    refine tkHx 12 52 ?_
    refine tkFx 13 53 ?_
    refine tkFx 14 54 ?_
    refine tkFx 15 55 ?_
    refine tkFx 16 56 ?_
    refine tkFx 17 57 ?_
    refine tkHx 18 58 ?_
    refine tkHx 19 59 ?_
    refine tkHx 20 60 ?_
    refine tkHx 21 61 ?_
    refine tkHx 22 62 ?_
    refine tkHx 23 63 ?_
    refine tkHx 24 64 ?_
    refine wpAnyH_done (by kernel_rfl) ?_ _
    (try simp only[apS,apN,siA,scZ,scS])
    have hbe:=Lib.hid (hb.out.trans ((below_alloc wr (.cells #[.int .i64 q.x,.int .i64 q.y] 27)).mono hb.out.size))
    have hbf:=Lib.hid (hbe.out.trans (hHeld.bel.mono hbe.out.size))
    have hO2:=Lib.hid (OwnL.below (OwnL.below hO.out (below_alloc wr (.cells #[.int .i64 q.x,.int .i64 q.y] 27))) hHeld.bel)
    have q0:=(hHeld.bel.cell (p:=⟨wr.heap.size,0,none⟩) (by rw[World.size_alloc];exact Nat.lt_succ_self _)).trans e0'.out
    have q1:=(hHeld.bel.cell (p:=⟨wr.heap.size,1,none⟩) (by rw[World.size_alloc];exact Nat.lt_succ_self _)).trans e1'.out
    clear hHeld hbe hO
    go_wp2_with (at_builtin;refine wpPushP q hO2.out hbf.out.size (by simp) rfl _ _ rfl rfl rfl rfl ?_;intro v6 w6 hown6 hb6 _;have hO6:=Lib.hid hown6;have hbw6:=Lib.hid (hbf.out.trans hb6);clear hown6 hb6)
    go_roundw
    case rel=>exact⟨k+1,v6,by omega,by go_num,rfl,by rw[hst.out];exact hO6,hbw6⟩
    case measure=>simp[intOf];omega
   | [x],_ =>
    obtain⟨bE,oE,hAE,hbE,f0,f1⟩:=pts_at hr6 (k:=0) (q:=x) rfl
    subst hAE
    rw[Nat.zero_mul,Nat.add_zero] at f0 f1
    have hn3:=pt_neq q x
    replace f0:=((below_alloc wr (.cells #[.int .i64 q.x,.int .i64 q.y] 27)).cell (p:=⟨bE,oE,none⟩) hbE).trans f0
    replace f1:=((below_alloc wr (.cells #[.int .i64 q.x,.int .i64 q.y] 27)).cell (p:=⟨bE,oE+1,none⟩) hbE).trans f1
    clear hr6
    cases hqx:ptB q x
    ·rw[hqx] at hn3
     replace hst:Hid (endsTo s t (k+1)=[x,q]):=by show _=_;rw[hst.out];simp[hqx]
     clear hqx
     go_wp2_with fail
     refine wp_region_held_drew (S:=Sx (wr.alloc (.cells #[.int .i64 q.x,.int .i64 q.y] 27)) [(w.heap.size,0,.int .i64 s.a.x),(w.heap.size,1,.int .i64 s.a.y),(w.heap.size,2,.int .i64 s.b.x),(w.heap.size,3,.int .i64 s.b.y),(w.heap.size+1,0,.int .i64 t.a.x),(w.heap.size+1,1,.int .i64 t.a.y),(w.heap.size+1,2,.int .i64 t.b.x),(w.heap.size+1,3,.int .i64 t.b.y),(wr.heap.size,0,.int .i64 q.x),(wr.heap.size,1,.int .i64 q.y),(bE,oE,.int .i64 x.x),(bE,oE+1,.int .i64 x.y)]) (by kernel_rfl) (Sx.mk (by simp only[cs_iff_cons];exact⟨a0,a1,a2,a3,b0,b1,b2,b3,e0,e1,f0,f1,cs_nil _⟩) (Below.refl _ _)).drew (fun hHeld=>?_)
     clear a0 a1 a2 a3 b0 b1 b2 b3
     clear e0 e1
     generalize (wr.alloc (.cells #[.int .i64 q.x,.int .i64 q.y] 27)).drew=Y at *
     refine tkHx 0 40 ?_
     refine tkHx 1 41 ?_
     (refine ratHx 2 (fun K hK=>?_);go_simp)
     refine (hn1.out _).mono ?_
     rintro e wn ⟨rfl,hbn⟩
     go_simp
     (refine hK.out _ _ (hHeld.step hbn) (fun hHeld=>?_);clear hK K;(try simp only[apS,apN,siA,scZ,scS]))
     refine tkHx 3 43 ?_
     refine tkHx 4 44 ?_
     refine tkHx 5 45 ?_
     (refine ratHx 6 (fun K hK=>?_);go_simp)
     refine (hn2.out _).mono ?_
     rintro e wn ⟨rfl,hbn⟩
     go_simp
     (refine hK.out _ _ (hHeld.step hbn) (fun hHeld=>?_);clear hK K;(try simp only[apS,apN,siA,scZ,scS]))
     refine tkHx 7 47 ?_
     refine tkHx 8 48 ?_
     refine tkHx 9 49 ?_
     refine tkHx 10 50 ?_
     refine tkHx 11 51 ?_
     refine tkHx 12 52 ?_
     refine tkHx 13 53 ?_
     refine tkHx 14 54 ?_
     refine tkHx 15 55 ?_
     refine tkHx 16 56 ?_
     refine tkHx 17 57 ?_
     refine tkHx 18 58 ?_
     refine tkHx 19 59 ?_
     refine tkHx 20 60 ?_
     refine tkHx 21 61 ?_
     refine tkHx 22 62 ?_
     refine tkHx 23 63 ?_
     refine tkHx 24 64 ?_
     refine wpAnyH_done (by kernel_rfl) ?_ _
     (try simp only[apS,apN,siA,scZ,scS])
     clear f0 f1
     have hbe:=Lib.hid (hb.out.trans ((below_alloc wr (.cells #[.int .i64 q.x,.int .i64 q.y] 27)).mono hb.out.size))
     have hbf:=Lib.hid (hbe.out.trans (hHeld.bel.mono hbe.out.size))
     have hO2:=Lib.hid (OwnL.below (OwnL.below hO.out (below_alloc wr (.cells #[.int .i64 q.x,.int .i64 q.y] 27))) hHeld.bel)
     have q0:=(hHeld.bel.cell (p:=⟨wr.heap.size,0,none⟩) (by rw[World.size_alloc];exact Nat.lt_succ_self _)).trans e0'.out
     have q1:=(hHeld.bel.cell (p:=⟨wr.heap.size,1,none⟩) (by rw[World.size_alloc];exact Nat.lt_succ_self _)).trans e1'.out
     clear hHeld hbe hO
     go_wp2_with (at_builtin;refine wpPushP q hO2.out hbf.out.size (by simp) rfl _ _ rfl rfl rfl rfl ?_;intro v6 w6 hown6 hb6 _;have hO6:=Lib.hid hown6;have hbw6:=Lib.hid (hbf.out.trans hb6);clear hown6 hb6)
     go_roundw
     case rel=>exact⟨k+1,v6,by omega,by go_num,rfl,by rw[hst.out];exact hO6,hbw6⟩
     case measure=>simp[intOf];omega
    rw[hqx] at hn3
    replace hst:Hid (endsTo s t (k+1)=[x]):=by show _=_;rw[hst.out];simp[hqx]
    clear hqx
    go_wp2_with fail
    refine wp_region_held_drew (S:=Sx (wr.alloc (.cells #[.int .i64 q.x,.int .i64 q.y] 27)) [(w.heap.size,0,.int .i64 s.a.x),(w.heap.size,1,.int .i64 s.a.y),(w.heap.size,2,.int .i64 s.b.x),(w.heap.size,3,.int .i64 s.b.y),(w.heap.size+1,0,.int .i64 t.a.x),(w.heap.size+1,1,.int .i64 t.a.y),(w.heap.size+1,2,.int .i64 t.b.x),(w.heap.size+1,3,.int .i64 t.b.y),(wr.heap.size,0,.int .i64 q.x),(wr.heap.size,1,.int .i64 q.y),(bE,oE,.int .i64 x.x),(bE,oE+1,.int .i64 x.y)]) (by kernel_rfl) (Sx.mk (by simp only[cs_iff_cons];exact⟨a0,a1,a2,a3,b0,b1,b2,b3,e0,e1,f0,f1,cs_nil _⟩) (Below.refl _ _)).drew (fun hHeld=>?_)
    clear a0 a1 a2 a3 b0 b1 b2 b3
    clear e0 e1
    generalize (wr.alloc (.cells #[.int .i64 q.x,.int .i64 q.y] 27)).drew=Y at *
    refine tkHx 0 40 ?_
    refine tkHx 1 41 ?_
    (refine ratHx 2 (fun K hK=>?_);go_simp)
    refine (hn1.out _).mono ?_
    rintro e wn ⟨rfl,hbn⟩
    go_simp
    (refine hK.out _ _ (hHeld.step hbn) (fun hHeld=>?_);clear hK K;(try simp only[apS,apN,siA,scZ,scS]))
    refine tkHx 3 43 ?_
    refine tkHx 4 44 ?_
    refine tkHx 5 45 ?_
    (refine ratHx 6 (fun K hK=>?_);go_simp)
    refine (hn2.out _).mono ?_
    rintro e wn ⟨rfl,hbn⟩
    go_simp
    (refine hK.out _ _ (hHeld.step hbn) (fun hHeld=>?_);clear hK K;(try simp only[apS,apN,siA,scZ,scS]))
    refine tkHx 7 47 ?_
    refine tkHx 8 48 ?_
    refine tkHx 9 49 ?_
    refine tkHx 10 50 ?_
    refine tkHx 11 51 ?_
    refine tkHx 12 52 ?_
    refine tkHx 13 53 ?_
    refine tkHx 14 54 ?_
    refine tkHx 15 55 ?_
    refine tkHx 16 56 ?_
    refine tkHx 17 57 ?_
    refine tkHx 18 58 ?_
    refine tkHx 19 59 ?_
    refine tkHx 20 60 ?_
    refine tkFx 21 61 ?_
    refine tkFx 22 62 ?_
    refine tkFx 23 63 ?_
    refine tkHx 24 64 ?_
    refine wpAnyH_done (by kernel_rfl) ?_ _
    (try simp only[apS,apN,siA,scZ,scS])
    clear f0 f1
    have hbe:=Lib.hid (hb.out.trans ((below_alloc wr (.cells #[.int .i64 q.x,.int .i64 q.y] 27)).mono hb.out.size))
    have hbf:=Lib.hid (hbe.out.trans (hHeld.bel.mono hbe.out.size))
    have hO2:=Lib.hid (OwnL.below (OwnL.below hO.out (below_alloc wr (.cells #[.int .i64 q.x,.int .i64 q.y] 27))) hHeld.bel)
    clear hHeld hbe hO
    go_wp2_with fail
    go_roundw
    case rel=>exact⟨k+1,_,by omega,by go_num,rfl,by rw[hst.out];exact hO2,hbf⟩
    case measure=>simp[intOf];omega
   | [x,y],_ =>
    obtain⟨bE,oE,hAE,hbE,f0,f1⟩:=pts_at hr6 (k:=0) (q:=x) rfl
    subst hAE
    rw[Nat.zero_mul,Nat.add_zero] at f0 f1
    have hn3:=pt_neq q x
    replace f0:=((below_alloc wr (.cells #[.int .i64 q.x,.int .i64 q.y] 27)).cell (p:=⟨bE,oE,none⟩) hbE).trans f0
    replace f1:=((below_alloc wr (.cells #[.int .i64 q.x,.int .i64 q.y] 27)).cell (p:=⟨bE,oE+1,none⟩) hbE).trans f1
    replace hst:Hid (endsTo s t (k+1)=[x,y]):=by show _=_;rw[hst.out];simp
    clear hr6
    cases hqx:ptB q x
    ·rw[hqx] at hn3
     clear hqx
     go_wp2_with fail
     refine wp_region_held_drew (S:=Sx (wr.alloc (.cells #[.int .i64 q.x,.int .i64 q.y] 27)) [(w.heap.size,0,.int .i64 s.a.x),(w.heap.size,1,.int .i64 s.a.y),(w.heap.size,2,.int .i64 s.b.x),(w.heap.size,3,.int .i64 s.b.y),(w.heap.size+1,0,.int .i64 t.a.x),(w.heap.size+1,1,.int .i64 t.a.y),(w.heap.size+1,2,.int .i64 t.b.x),(w.heap.size+1,3,.int .i64 t.b.y),(wr.heap.size,0,.int .i64 q.x),(wr.heap.size,1,.int .i64 q.y),(bE,oE,.int .i64 x.x),(bE,oE+1,.int .i64 x.y)]) (by kernel_rfl) (Sx.mk (by simp only[cs_iff_cons];exact⟨a0,a1,a2,a3,b0,b1,b2,b3,e0,e1,f0,f1,cs_nil _⟩) (Below.refl _ _)).drew (fun hHeld=>?_)
     clear a0 a1 a2 a3 b0 b1 b2 b3
     clear e0 e1
     generalize (wr.alloc (.cells #[.int .i64 q.x,.int .i64 q.y] 27)).drew=Y at *
     refine tkHx 0 40 ?_
     refine tkHx 1 41 ?_
     (refine ratHx 2 (fun K hK=>?_);go_simp)
     refine (hn1.out _).mono ?_
     rintro e wn ⟨rfl,hbn⟩
     go_simp
     (refine hK.out _ _ (hHeld.step hbn) (fun hHeld=>?_);clear hK K;(try simp only[apS,apN,siA,scZ,scS]))
     refine tkHx 3 43 ?_
     refine tkHx 4 44 ?_
     refine tkHx 5 45 ?_
     (refine ratHx 6 (fun K hK=>?_);go_simp)
     refine (hn2.out _).mono ?_
     rintro e wn ⟨rfl,hbn⟩
     go_simp
     (refine hK.out _ _ (hHeld.step hbn) (fun hHeld=>?_);clear hK K;(try simp only[apS,apN,siA,scZ,scS]))
     refine tkHx 7 47 ?_
     refine tkHx 8 48 ?_
     refine tkHx 9 49 ?_
     refine tkHx 10 50 ?_
     refine tkHx 11 51 ?_
     refine tkHx 12 52 ?_
     refine tkHx 13 53 ?_
     refine tkHx 14 54 ?_
     refine tkHx 15 55 ?_
     refine tkHx 16 56 ?_
     refine tkHx 17 57 ?_
     refine tkHx 18 58 ?_
     refine tkHx 19 59 ?_
     refine tkHx 20 60 ?_
     refine tkHx 21 61 ?_
     refine tkHx 22 62 ?_
     refine tkHx 23 63 ?_
     refine tkHx 24 64 ?_
     refine wpAnyH_done (by kernel_rfl) ?_ _
     (try simp only[apS,apN,siA,scZ,scS])
     clear f0 f1
     have hbe:=Lib.hid (hb.out.trans ((below_alloc wr (.cells #[.int .i64 q.x,.int .i64 q.y] 27)).mono hb.out.size))
     have hbf:=Lib.hid (hbe.out.trans (hHeld.bel.mono hbe.out.size))
     have hO2:=Lib.hid (OwnL.below (OwnL.below hO.out (below_alloc wr (.cells #[.int .i64 q.x,.int .i64 q.y] 27))) hHeld.bel)
     clear hHeld hbe hO
     go_wp2_with fail
     go_roundw
     case rel=>exact⟨k+1,_,by omega,by go_num,rfl,by rw[hst.out];exact hO2,hbf⟩
     case measure=>simp[intOf];omega
    rw[hqx] at hn3
    clear hqx
    go_wp2_with fail
    refine wp_region_held_drew (S:=Sx (wr.alloc (.cells #[.int .i64 q.x,.int .i64 q.y] 27)) [(w.heap.size,0,.int .i64 s.a.x),(w.heap.size,1,.int .i64 s.a.y),(w.heap.size,2,.int .i64 s.b.x),(w.heap.size,3,.int .i64 s.b.y),(w.heap.size+1,0,.int .i64 t.a.x),(w.heap.size+1,1,.int .i64 t.a.y),(w.heap.size+1,2,.int .i64 t.b.x),(w.heap.size+1,3,.int .i64 t.b.y),(wr.heap.size,0,.int .i64 q.x),(wr.heap.size,1,.int .i64 q.y),(bE,oE,.int .i64 x.x),(bE,oE+1,.int .i64 x.y)]) (by kernel_rfl) (Sx.mk (by simp only[cs_iff_cons];exact⟨a0,a1,a2,a3,b0,b1,b2,b3,e0,e1,f0,f1,cs_nil _⟩) (Below.refl _ _)).drew (fun hHeld=>?_)
    clear a0 a1 a2 a3 b0 b1 b2 b3
    clear e0 e1
    generalize (wr.alloc (.cells #[.int .i64 q.x,.int .i64 q.y] 27)).drew=Y at *
    refine tkHx 0 40 ?_
    refine tkHx 1 41 ?_
    (refine ratHx 2 (fun K hK=>?_);go_simp)
    refine (hn1.out _).mono ?_
    rintro e wn ⟨rfl,hbn⟩
    go_simp
    (refine hK.out _ _ (hHeld.step hbn) (fun hHeld=>?_);clear hK K;(try simp only[apS,apN,siA,scZ,scS]))
    refine tkHx 3 43 ?_
    refine tkHx 4 44 ?_
    refine tkHx 5 45 ?_
    (refine ratHx 6 (fun K hK=>?_);go_simp)
    refine (hn2.out _).mono ?_
    rintro e wn ⟨rfl,hbn⟩
    go_simp
    (refine hK.out _ _ (hHeld.step hbn) (fun hHeld=>?_);clear hK K;(try simp only[apS,apN,siA,scZ,scS]))
    refine tkHx 7 47 ?_
    refine tkHx 8 48 ?_
    refine tkHx 9 49 ?_
    refine tkHx 10 50 ?_
    refine tkHx 11 51 ?_
    refine tkHx 12 52 ?_
    refine tkHx 13 53 ?_
    refine tkHx 14 54 ?_
    refine tkHx 15 55 ?_
    refine tkHx 16 56 ?_
    refine tkHx 17 57 ?_
    refine tkHx 18 58 ?_
    refine tkHx 19 59 ?_
    refine tkHx 20 60 ?_
    refine tkFx 21 61 ?_
    refine tkFx 22 62 ?_
    refine tkFx 23 63 ?_
    refine tkHx 24 64 ?_
    refine wpAnyH_done (by kernel_rfl) ?_ _
    (try simp only[apS,apN,siA,scZ,scS])
    clear f0 f1
    have hbe:=Lib.hid (hb.out.trans ((below_alloc wr (.cells #[.int .i64 q.x,.int .i64 q.y] 27)).mono hb.out.size))
    have hbf:=Lib.hid (hbe.out.trans (hHeld.bel.mono hbe.out.size))
    have hO2:=Lib.hid (OwnL.below (OwnL.below hO.out (below_alloc wr (.cells #[.int .i64 q.x,.int .i64 q.y] 27))) hHeld.bel)
    clear hHeld hbe hO
    go_wp2_with fail
    go_roundw
    case rel=>exact⟨k+1,_,by omega,by go_num,rfl,by rw[hst.out];exact hO2,hbf⟩
    case measure=>simp[intOf];omega
   | _ :: _ :: _ :: _,h3=>exact absurd h3 (by simp)
  obtain rfl:k=4:=by omega
  have hI:=Lib.hid (hI0.out.below hb.out)
  have hacl:=endsTo_len s t 4 (by decide)
  have hacs:=hsm.out 4 (by decide)
  rw[endsTo_all] at hO hacl hacs
  have hno:=fun h=>comRT_no2 h1.out h2.out h
  have hyes:=fun x y h=>comRT_two (x:=x) (y:=y) h1.out h2.out h
  rw[hR0.out] at hno hyes
  generalize Cal.endsR s t=acc at *
  obtain⟨A6,c6,e6,hr6⟩:=OwnL.form hO.out
  rw[List.length_map] at e6
  subst e6
  clear hsm hsf hR0
  match acc,hacl with
  | [],_ =>
   have hR:=Lib.hid (hno (by simp))
   clear hno hyes
   go_wp2_with (refine wpList_store_box rfl 90 (.tmp 4) (.tmp 73) rfl (w.heap.size+1+1) _ [.int .i64 0,.int .i64 0,.int .i64 0,.int .i64 0] (by rfl) (by rfl) hI.out.z rfl sgSize (by kernel_rfl) ?_;intro w5 hz5 hg5;have hb5:=Lib.hid (below_of_grownB hI.out.bel hg5 (by omega)))
   refine bodyPost_ret (results_mid2 rfl _ _ (w.heap.size+1+1) [.int .i64 0,.int .i64 0,.int .i64 0,.int .i64 0] _ rfl hz5.range Tryz.underlying90 rfl sgSize) rfl ⟨by rw[hR.out];rfl,hb5.out⟩
  | [x],_ =>
   have hR:=Lib.hid (hno (by simp))
   clear hno hyes
   go_wp2_with (refine wpList_store_box rfl 90 (.tmp 4) (.tmp 73) rfl (w.heap.size+1+1) _ [.int .i64 0,.int .i64 0,.int .i64 0,.int .i64 0] (by rfl) (by rfl) hI.out.z rfl sgSize (by kernel_rfl) ?_;intro w5 hz5 hg5;have hb5:=Lib.hid (below_of_grownB hI.out.bel hg5 (by omega)))
   refine bodyPost_ret (results_mid2 rfl _ _ (w.heap.size+1+1) [.int .i64 0,.int .i64 0,.int .i64 0,.int .i64 0] _ rfl hz5.range Tryz.underlying90 rfl sgSize) rfl ⟨by rw[hR.out];rfl,hb5.out⟩
  | [x,y],_ =>
   have hR1:=hyes x y rfl
   have sx:=hacs x (by simp)
   have sy:=hacs y (by simp)
   have hf1:=Lib.hid (fun W=>farR_any s.a x W hs.a sx)
   have hf2:=Lib.hid (fun W=>farR_any s.a y W hs.a sy)
   obtain⟨bE,oE,hAE,hbE,f0,f1⟩:=pts_at hr6 (k:=0) (q:=x) rfl
   obtain⟨b',o',hA',_,f2,f3⟩:=pts_at hr6 (k:=1) (q:=y) rfl
   subst hAE
   cases hA'
   rw[Nat.zero_mul,Nat.add_zero] at f0 f1
   rw[Nat.one_mul] at f2 f3
   have hbo:=(OwnL.lt hO.out bE rfl).1
   obtain⟨a0,a1⟩:=hI.out.s.c2
   clear hno hyes hacs hr6 sx sy
   generalize Cal.farR s.a x=X at *
   generalize Cal.farR s.a y=Y' at *
   have hzI:=Lib.hid (hI.out.z)
   have hnz:Hid (bE≠w.heap.size+1+1):=by have:=hwn.out;show _≠_;omega
   go_wp2_with fail
   refine wp_region_held_drew (S:=Sx w [(w.heap.size,0,.int .i64 s.a.x),(w.heap.size,1,.int .i64 s.a.y),(bE,oE,.int .i64 x.x),(bE,oE+1,.int .i64 x.y),(bE,oE+2,.int .i64 y.x),(bE,oE+2+1,.int .i64 y.y)]) (by kernel_rfl) (Sx.mk (by simp only[cs_iff_cons];exact⟨a0,a1,f0,f1,f2,f3,cs_nil _⟩) hI.out.bel).drew (fun hHeld=>?_)
   clear a0 a1 f0 f1 f2 f3
   have hbE1:Hid (bE<wr.drew.heap.size):=hbE
   replace hzI:=Lib.hid (hzI.out.below (Below.refl _ _).drew)
   generalize wr.drew=Y at *
   refine tkHx 0 74 ?_
   refine tkHx 1 75 ?_
   refine tkHx 2 76 ?_
   refine tkHx 3 77 ?_
   refine tkHx 4 78 ?_
   refine tkHx 6 80 ?_
   refine tkHx 7 81 ?_
   refine tkHx 8 82 ?_
   refine tkHx 9 83 ?_
   refine tkHx 10 84 ?_
   (refine ratHx 5 (fun K hK=>?_);go_simp)
   refine (hf1.out _).mono ?_
   rintro e wn ⟨rfl,hbn⟩
   go_simp
   replace hzI:=Lib.hid (hzI.out.below hbn)
   replace hbE1:Hid (bE<wn.heap.size):=Nat.lt_of_lt_of_le hbE1.out hbn.size
   (refine hK.out _ _ (hHeld.step hbn) (fun hHeld=>?_);clear hK K;(try simp only[apS,apN,siA,scZ,scS]))
   (refine ratHx 11 (fun K hK=>?_);go_simp)
   refine (hf2.out _).mono ?_
   rintro e wm ⟨rfl,hbn⟩
   go_simp
   replace hzI:=Lib.hid (hzI.out.below hbn)
   replace hbE1:Hid (bE<wm.heap.size):=Nat.lt_of_lt_of_le hbE1.out hbn.size
   (refine hK.out _ _ (hHeld.step hbn) (fun hHeld=>?_);clear hK K;(try simp only[apS,apN,siA,scZ,scS]))
   refine tkHx 12 86 ?_
   refine wpAnyH_done (by kernel_rfl) ?_ _
   (try simp only[apS,apN,siA,scZ,scS])
   have hbz:=Lib.hid hHeld.bel
   have hcs:=hHeld.cs
   simp only[cs_iff_cons] at hcs
   obtain⟨_,_,f0,f1,f2,f3,_⟩:=hcs
   have hz2:=hzI
   have hbE2:=hbE1
   clear hHeld hI hzI hbE1
   generalize hW9:wm=W9 at *
   clear hW9
   by_cases hXY:Y'<X
   ·have hR:Hid (R=(⟨y,x⟩,true)):=by show _=_;rw[hR1,if_pos hXY]
    clear hR1
    go_wp2_with fail
    refine wp_region_held_drew (S:=Sx w [(bE,oE,.int .i64 x.x),(bE,oE+1,.int .i64 x.y),(bE,oE+2,.int .i64 y.x),(bE,oE+2+1,.int .i64 y.y)]) (by kernel_rfl) (Sx.mk (by simp only[cs_iff_cons];exact⟨f0,f1,f2,f3,cs_nil _⟩) hbz.out).drew (fun hHeld=>?_)
    clear f0 f1 f2 f3
    have hz9:=Lib.hid (hz2.out.below (Below.refl _ _).drew)
    have hbl:bE<W9.drew.heap.size:=hbE2.out
    generalize W9.drew=Y9 at *
    refine tkHx 0 87 ?_
    refine tkHx 1 88 ?_
    refine tkHx 2 89 ?_
    refine tkHx 3 90 ?_
    refine tkHx 4 91 ?_
    refine tkHx 5 92 ?_
    refine tkHx 6 93 ?_
    refine storeH 7 90 (.tmp 4) (.tmp 93) (w.heap.size+1+1) 0 #[.int .i64 y.x,.int .i64 y.y,.int .i64 x.x,.int .i64 x.y] (by decide +kernel) (by exact rfl) (by exact rfl) (by kernel_rfl) (by rfl) (by rfl) (by exact hz9.out.there) sgSize (by kernel_rfl) (hHeld.putD (by omega) (fun z hz=>by
     have hzb:z.1=bE:=by
      simp only[List.mem_cons,List.not_mem_nil,or_false] at hz
      rcases hz with rfl | rfl | rfl | rfl <;> rfl
     rw[hzb]
     exact⟨hnz.out,hbl⟩)) (fun hHeld=>?_)
    (try simp only[apS,apN,siA,scZ,scS])
    refine tkHx 8 5 ?_
    refine wpAnyH_done (by kernel_rfl) ?_ _
    (try simp only[apS,apN,siA,scZ,scS])
    have hz5:=hz9.out.put [.int .i64 y.x,.int .i64 y.y,.int .i64 x.x,.int .i64 x.y] rfl
    have hb5:=Lib.hid hHeld.bel
    clear hHeld
    go_wp2_with fail
    refine bodyPost_ret (results_mid2 rfl _ _ (w.heap.size+1+1) [.int .i64 y.x,.int .i64 y.y,.int .i64 x.x,.int .i64 x.y] _ rfl hz5.range Tryz.underlying90 rfl sgSize) rfl ⟨by rw[hR.out];rfl,hb5.out⟩
   have hR:Hid (R=(⟨x,y⟩,true)):=by show _=_;rw[hR1,if_neg hXY]
   clear hR1
   go_wp2_with fail
   refine wp_region_held_drew (S:=Sx w [(bE,oE,.int .i64 x.x),(bE,oE+1,.int .i64 x.y),(bE,oE+2,.int .i64 y.x),(bE,oE+2+1,.int .i64 y.y)]) (by kernel_rfl) (Sx.mk (by simp only[cs_iff_cons];exact⟨f0,f1,f2,f3,cs_nil _⟩) hbz.out).drew (fun hHeld=>?_)
   clear f0 f1 f2 f3
   have hz9:=Lib.hid (hz2.out.below (Below.refl _ _).drew)
   have hbl:bE<W9.drew.heap.size:=hbE2.out
   generalize W9.drew=Y9 at *
   refine tkHx 0 94 ?_
   refine tkHx 1 95 ?_
   refine tkHx 2 96 ?_
   refine tkHx 3 97 ?_
   refine tkHx 4 98 ?_
   refine tkHx 5 99 ?_
   refine tkHx 6 100 ?_
   refine storeH 7 90 (.tmp 4) (.tmp 100) (w.heap.size+1+1) 0 #[.int .i64 x.x,.int .i64 x.y,.int .i64 y.x,.int .i64 y.y] (by decide +kernel) (by exact rfl) (by exact rfl) (by kernel_rfl) (by rfl) (by rfl) (by exact hz9.out.there) sgSize (by kernel_rfl) (hHeld.putD (by omega) (fun z hz=>by
    have hzb:z.1=bE:=by
     simp only[List.mem_cons,List.not_mem_nil,or_false] at hz
     rcases hz with rfl | rfl | rfl | rfl <;> rfl
    rw[hzb]
    exact⟨hnz.out,hbl⟩)) (fun hHeld=>?_)
   (try simp only[apS,apN,siA,scZ,scS])
   refine tkHx 8 5 ?_
   refine wpAnyH_done (by kernel_rfl) ?_ _
   (try simp only[apS,apN,siA,scZ,scS])
   have hz5:=hz9.out.put [.int .i64 x.x,.int .i64 x.y,.int .i64 y.x,.int .i64 y.y] rfl
   have hb5:=Lib.hid hHeld.bel
   clear hHeld
   go_wp2_with fail
   refine bodyPost_ret (results_mid2 rfl _ _ (w.heap.size+1+1) [.int .i64 x.x,.int .i64 x.y,.int .i64 y.x,.int .i64 y.y] _ rfl hz5.range Tryz.underlying90 rfl sgSize) rfl ⟨by rw[hR.out];rfl,hb5.out⟩
  | _ :: _ :: _ :: _,h3=>exact absurd h3 (by simp)
end Go.Proofs.YthfokpchdlcidaaGreat
namespace Go.Proofs.YthfokpchdlcidaaGreat
open Go Go.RowKit Go.Shelf
theorem wpPushS {ops:Array Oper} {rest:List Oper} {op:Oper} {a:Act} {w:World} {Q:Exit→Act→World→Prop} {B:Nat} {v:Value} {l:List Sd} {t:TypeId} (q:Sd) (h:OwnL w B 90 4 v (l.map sdR)) (hB:B≤w.heap.size) (hlen:l.length≤1000000)
  (hgd:op.guard=none) (s x:Operand) (ho:op.op=.call { callee:=.builtin .append,args:=#[s,x],argTypes:=#[83,83] }) (hs:a.eval s=v) {c n:Nat} (hx:a.eval x=.slice (some ⟨n,0,none⟩) 1 c) (hn:n=w.heap.size)
  (k:∀ v' w',OwnL w' B 90 4 v' ((l ++ [q]).map sdR)→Below B w w'→wpList Tryz.prog ops Q rest (a.put op.dst v') w'):wpList Tryz.prog ops Q (op :: rest) a (w.alloc (.cells #[.int .i64 q.a.x,.int .i64 q.a.y,.int .i64 q.b.x,.int .i64 q.b.y] t)):=by
 subst hn
 refine wpList_append_rows elemSg hgd s x ho hs hx (OwnL.below h (below_alloc _ _)) (rowsAt_new _ (sdR q) _) rfl (sdR_wid [q]) (sdR_one [q]) (by rw[List.length_map,List.length_singleton];omega) (by decide) (by simp;omega) ?_
 intro v' w2 hown2 hg2 _
 exact k v' w2 (by rw[List.map_append];exact hown2) (((Below.refl B w).alloc hB _).trans (grown_below hg2 (fun g e=>(OwnL.lt h g e).1) (by simp;omega)))
def accR (a b:List Pt) (i:Nat):List Sd:=((Cal.sds a).take i).flatMap fun s=>(Cal.sds b).filterMap fun t=>Cal.commonR s t
def rowR (s:Sd) (b:List Pt) (k:Nat):List Sd:=((Cal.sds b).take k).filterMap fun t=>Cal.commonR s t
theorem sds_len (a:List Pt):(Cal.sds a).length=a.length:=by simp[Cal.sds]
theorem sds_at {a:List Pt} {k:Nat} (h:k<(Cal.sds a).length):(Cal.sds a)[k]=Cal.sd a k:=by simp[Cal.sds]
theorem rowR_succ {s:Sd} {b:List Pt} {k:Nat} (h:k<b.length):rowR s b (k+1)=rowR s b k ++ (Cal.commonR s (Cal.sd b k)).toList:=by
 unfold rowR
 have hk:k<(Cal.sds b).length:=by rw[sds_len];exact h
 rw[List.take_succ_eq_append_getElem hk,List.filterMap_append,sds_at hk]
 cases h2:Cal.commonR s (Cal.sd b k) with
 | none=>simp[h2]
 | some x=>simp[h2]
theorem accR_succ {a b:List Pt} {i:Nat} (h:i<a.length):accR a b (i+1)=accR a b i ++ rowR (Cal.sd a i) b b.length:=by
 unfold accR rowR
 have hk:i<(Cal.sds a).length:=by rw[sds_len];exact h
 rw[List.take_succ_eq_append_getElem hk,List.flatMap_append,sds_at hk,List.take_of_length_le (l:=Cal.sds b) (by rw[sds_len];exact Nat.le_refl _)]
 simp
theorem rowR_len (s:Sd) (b:List Pt) (k:Nat):(rowR s b k).length≤k:=by
 unfold rowR
 exact Nat.le_trans (List.length_filterMap_le _ _) (by rw[List.length_take];omega)
theorem accR_len (a b:List Pt):∀ i,i≤a.length→(accR a b i).length≤i*b.length
 | 0,_=>by simp[accR]
 | i+1,h=>by
  have ih:=accR_len a b i (by omega)
  have:=rowR_len (Cal.sd a i) b b.length
  rw[accR_succ (by omega),List.length_append,Nat.succ_mul]
  omega
theorem accR_all (a b:List Pt):accR a b a.length=Cal.borderR a b:=by
 unfold accR Cal.borderR
 rw[List.take_of_length_le (by rw[sds_len];exact Nat.le_refl _)]
theorem comRT_opt (s t:Sd):(Cal.commonR s t).toList=if (comRT s t).2=true then [(comRT s t).1] else []:=by
 unfold comRT
 cases Cal.commonR s t <;> rfl
theorem part_small {i k n m:Nat} (hi:i<n) (hk:k<m) (hn:n≤40) (hm:m≤40) {x y:Nat} (h1:x≤i*m) (h2:y≤k):x+y≤1000000:=by
 have:=Nat.mul_le_mul (Nat.le_of_lt hi) (Nat.le_refl m)
 have:=Nat.mul_le_mul hn hm
 omega
theorem BorderR_any (V:Option Addr) (d:Nat) (a:List Pt) (V2:Option Addr) (d2:Nat) (b:List Pt) (w:World) (hA:Pts w V a) (hB:Pts w V2 b) (hl:a.length≤40) (hl2:b.length≤40) :
  Calls Tryz.prog 52 #[.slice V a.length d,.slice V2 b.length d2] w fun e w'=>∃ v,e=.returned v∧OwnL w' w.heap.size 90 4 v ((Cal.borderR a b).map sdR)∧Below w.heap.size w w':=by
 have hPA:Hid (PtsR w V a):=⟨hA.rows,hA.size,hA.own⟩
 have hPB:Hid (PtsR w V2 b):=⟨hB.rows,hB.size,hB.own⟩
 have hsA:=Lib.hid (fun k hk=>hA.sd k hk)
 have hsB:=Lib.hid (fun k hk=>hB.sd k hk)
 have hb0:Hid (Below w.heap.size w w):=Below.refl _ _
 have hO0:Hid (OwnL w w.heap.size 90 4 (.slice none 0 0) ((accR a b 0).map sdR)):=OwnL.nil _ _ _ _
 rw[←accR_all]
 clear hA hB
 go_enter Tryz.func52,Tryz.ntmps52
 go_wp2_with fail
 go_loopw [5,6] (fun ov iv wr=>∃ (i:Nat) (v:Value),i≤a.length∧iv=.int .i64 i∧ov=v∧Hid (OwnL wr w.heap.size 90 4 v ((accR a b i).map sdR))∧Hid (Below w.heap.size w wr)) (fun _ iv _=>a.length-(intOf iv).toNat)
 case atStart=>exact⟨0,_,Nat.zero_le _,rfl,rfl,hO0,hb0⟩
 case round =>
  clear hb0 hO0
  obtain⟨i,v,hi,rfl,rfl,hO,hb⟩:=hrel
  by_cases hlt:i<a.length
  ·have hii:(i:Int)<(a.length:Int):=by omega
   have hs:SmS (Cal.sd a i):=hsA.out i hlt
   have hsd1:=Lib.hid (fun W hW=>sideR_any V d a i W (hPA.out.below hW) hlt (by omega))
   have hnx:=Lib.hid (accR_succ (b:=b) hlt)
   have hla:=Lib.hid (accR_len a b i hi)
   have hO1:Hid (OwnL wr w.heap.size 90 4 u5 ((accR a b i ++ rowR (Cal.sd a i) b 0).map sdR)):=by
    show OwnL _ _ _ _ _ _
    rw[show rowR (Cal.sd a i) b 0=[] from rfl,List.append_nil];exact hO.out
   clear hO
   generalize Cal.sd a i=s at *
   generalize accR a b i=acc at *
   generalize hwo:wr=wo at *
   clear hwo wr
   go_wp2_with fail
   go_loopw [5,7] (fun ov kv wr=>∃ (k:Nat) (v:Value),k≤b.length∧kv=.int .i64 k∧ov=v∧Hid (OwnL wr w.heap.size 90 4 v ((acc ++ rowR s b k).map sdR))∧Hid (Below w.heap.size w wr)) (fun _ kv _=>b.length-(intOf kv).toNat)
   case atStart=>exact⟨0,_,Nat.zero_le _,rfl,rfl,hO1,hb⟩
   case round =>
    clear hO1 hb
    obtain⟨k,v,hk,rfl,rfl,hO,hb⟩:=hrel
    by_cases hlk:k<b.length
    ·have hkk:(k:Int)<(b.length:Int):=by omega
     have ht:SmS (Cal.sd b k):=hsB.out k hlk
     have hsd2:=Lib.hid (fun W hW=>sideR_any V2 d2 b k W (hPB.out.below hW) hlk (by omega))
     have hrw:=rowR_succ (s:=s) hlk
     rw[comRT_opt] at hrw
     have hsz:Hid ((acc ++ rowR s b k).length≤1000000):=by
      show _≤_
      rw[List.length_append]
      exact part_small hlt hlk hl hl2 hla.out (rowR_len s b k)
     generalize Cal.sd b k=t at *
     have hcm:=Lib.hid (fun W=>commonR_any s t W hs ht)
     obtain⟨X,hX⟩:∃ X,comRT s t=X:=⟨_,rfl⟩
     rw[hX] at hcm hrw
     clear hX
     obtain⟨q,ok⟩:=X
     dsimp only at hcm hrw
     cases ok
     ·rw[if_neg (by decide),List.append_nil] at hrw
      have hrw':Hid (rowR s b (k+1)=rowR s b k):=hrw
      clear hrw
      go_wp2_with (first
       |(go_at_call 84;refine (hsd1.out _ hb.out).mono ?_;rintro e w1 ⟨rfl,hb1⟩;have hb2:=Lib.hid (below_step hb.out hb1);have hO2:=Lib.hid (OwnL.below hO.out hb1);clear hb1 hb hO)
       |(go_at_call 84;refine (hsd2.out _ hb2.out).mono ?_;rintro e w2 ⟨rfl,hb1⟩;have hb3:=Lib.hid (below_step hb2.out hb1);have hO3:=Lib.hid (OwnL.below hO2.out hb1);clear hb1 hb2 hO2)
       |(go_at_call 94;refine (hcm.out _).mono ?_;rintro e w3 ⟨rfl,hb1⟩;have hb4:=Lib.hid ((below_step hb3.out hb1).alloc (below_step hb3.out hb1).size (.cells #[.int .i64 q.a.x,.int .i64 q.a.y,.int .i64 q.b.x,.int .i64 q.b.y] 90));have hO4:=Lib.hid (OwnL.below (OwnL.below hO3.out hb1) (below_alloc _ (.cells #[.int .i64 q.a.x,.int .i64 q.a.y,.int .i64 q.b.x,.int .i64 q.b.y] 90)));clear hb1 hb3 hO3))
      go_roundw
      case rel=>exact⟨k+1,_,by omega,by go_num,rfl,by rw[hrw'.out];exact hO4,hb4⟩
      case measure=>simp[intOf];omega
     rw[if_pos rfl] at hrw
     have hrw':Hid (rowR s b (k+1)=rowR s b k ++ [q]):=hrw
     clear hrw
     go_wp2_with (first
      |(go_at_call 84;refine (hsd1.out _ hb.out).mono ?_;rintro e w1 ⟨rfl,hb1⟩;have hb2:=Lib.hid (below_step hb.out hb1);have hO2:=Lib.hid (OwnL.below hO.out hb1);clear hb1 hb hO)
      |(go_at_call 84;refine (hsd2.out _ hb2.out).mono ?_;rintro e w2 ⟨rfl,hb1⟩;have hb3:=Lib.hid (below_step hb2.out hb1);have hO3:=Lib.hid (OwnL.below hO2.out hb1);clear hb1 hb2 hO2)
      |(go_at_call 94;refine (hcm.out _).mono ?_;rintro e w3 ⟨rfl,hb1⟩;have hq4:=(BoxAt.new w3 #[.int .i64 q.a.x,.int .i64 q.a.y,.int .i64 q.b.x,.int .i64 q.b.y] 90);obtain⟨c0,c1,c2,c3⟩:=hq4.c4;clear hq4;have hb4:=Lib.hid ((below_step hb3.out hb1).alloc (below_step hb3.out hb1).size (.cells #[.int .i64 q.a.x,.int .i64 q.a.y,.int .i64 q.b.x,.int .i64 q.b.y] 90));have hO4:=Lib.hid (OwnL.below (OwnL.below hO3.out hb1) (below_alloc _ (.cells #[.int .i64 q.a.x,.int .i64 q.a.y,.int .i64 q.b.x,.int .i64 q.b.y] 90)));clear hb1 hb3 hO3)
      |(at_builtin;refine wpPushS q hO4.out hb4.out.size hsz.out rfl _ _ rfl rfl rfl (by simp) ?_;intro v6 w6 hown6 hb6;have hO6:=Lib.hid hown6;have hbw6:=Lib.hid (hb4.out.trans hb6);clear hown6 hb6))
     go_roundw
     case rel=>exact⟨k+1,v6,by omega,by go_num,rfl,by rw[hrw'.out,←List.append_assoc];exact hO6,hbw6⟩
     case measure=>simp[intOf];omega
    obtain rfl:k=b.length:=by omega
    go_wp2_with fail
    go_roundw
    case rel=>exact⟨i+1,_,by omega,by go_num,rfl,by rw[hnx.out];exact hO,hb⟩
    case measure=>simp[intOf];omega
  obtain rfl:i=a.length:=by omega
  go_wp2_with fail
  go_ret
  exact⟨_,rfl,hO.out,hb.out⟩
end Go.Proofs.YthfokpchdlcidaaGreat
namespace Go.Proofs.YthfokpchdlcidaaGreat
namespace Cal
theorem ends_keep (s t:Sd) {z:Pt}:∀ {l:List Pt},(l.foldl (endR s t) [z]).length<2→∀ q∈l,bothP s t q=true→q=z
 | [],_,q,hq,_=>by cases hq
 | x :: l,h,q,hq,hb=>by
  rw[List.foldl_cons] at h
  by_cases hx:bothP s t x=true
  ·by_cases e:x=z
   ·have h1:endR s t [z] x=[z]:=by
     unfold endR
     have:ptB x z=true:=ptB_iff.2 e
     rw[hx];simp[this]
    rw[h1] at h
    rcases List.mem_cons.1 hq with rfl | hq
    ·exact e
    exact ends_keep s t h q hq hb
   have h1:endR s t [z] x=[z,x]:=by
    unfold endR
    have:ptB x z=false:=ptB_no e
    rw[hx];simp[this]
   rw[h1,ends_full] at h
   simp at h
  have hx':bothP s t x=false:=by simpa using hx
  have h1:endR s t [z] x=[z]:=by unfold endR;rw[hx'];simp
  rw[h1] at h
  rcases List.mem_cons.1 hq with rfl | hq
  ·exact absurd hb hx
  exact ends_keep s t h q hq hb
theorem ends_one (s t:Sd):∀ {l:List Pt},(l.foldl (endR s t) []).length<2→∀ x∈l,∀ y∈l,bothP s t x=true→bothP s t y=true→x=y
 | [],_,x,hx,_,_,_,_=>by cases hx
 | q :: l,h,x,hx,y,hy,bx,hby=>by
  rw[List.foldl_cons] at h
  by_cases hq:bothP s t q=true
  ·have h1:endR s t [] q=[q]:=by unfold endR;rw[hq];simp
   rw[h1] at h
   have key:∀ z∈q :: l,bothP s t z=true→z=q:=fun z hz hb=>by
    rcases List.mem_cons.1 hz with e | hz
    ·exact e
    exact ends_keep s t h z hz hb
   rw[key x hx bx,key y hy hby]
  have hq':bothP s t q=false:=by simpa using hq
  have h1:endR s t [] q=[]:=by unfold endR;rw[hq'];simp
  rw[h1] at h
  rcases List.mem_cons.1 hx with e | hx
  ·exact absurd (e ▸ bx) hq
  rcases List.mem_cons.1 hy with e | hy
  ·exact absurd (e ▸ hby) hq
  exact ends_one s t h x hx y hy bx hby
theorem ends_lt {s t:Sd} {l:List Pt}:(l.foldl (endR s t) []).length<2↔∀ x∈l,∀ y∈l,bothP s t x=true→bothP s t y=true→x=y:=by
 refine⟨ends_one s t,fun h=>?_⟩
 obtain⟨z,hz⟩:∃ z,∀ q∈l,bothP s t q=true→q=z:=by
  by_cases he:∃ x∈l,bothP s t x=true
  ·obtain⟨x,hx,hb⟩:=he
   exact⟨x,fun q hq hq'=>h q hq x hx hq' hb⟩
  exact⟨pt0,fun q hq hb=>absurd ⟨q,hq,hb⟩ he⟩
 rcases ends_few s t (x:=z) hz (Or.inl rfl) with e | e <;> rw[e] <;> simp
theorem both_comm (s t:Sd) (q:Pt):bothP s t q=bothP t s q:=Bool.and_comm ..
theorem endsR_comm (s t:Sd):(endsR s t).length<2↔(endsR t s).length<2:=by
 unfold endsR
 rw[ends_lt,ends_lt]
 have hm:∀ x,x∈[s.a,s.b,t.a,t.b]↔x∈[t.a,t.b,s.a,s.b]:=fun x=>by
  simp only[List.mem_cons,List.not_mem_nil,or_false]
  constructor
  ·rintro (h | h | h | h)
   ·exact .inr (.inr (.inl h))
   ·exact .inr (.inr (.inr h))
   ·exact .inl h
   exact .inr (.inl h)
  rintro (h | h | h | h)
  ·exact .inr (.inr (.inl h))
  ·exact .inr (.inr (.inr h))
  ·exact .inl h
  exact .inr (.inl h)
 constructor
 ·intro h x hx y hy bx by'
  exact h x ((hm x).2 hx) y ((hm y).2 hy) (by rw[both_comm];exact bx) (by rw[both_comm];exact by')
 intro h x hx y hy bx by'
 exact h x ((hm x).1 hx) y ((hm y).1 hy) (by rw[both_comm];exact bx) (by rw[both_comm];exact by')
theorem line_comm {s t:Sd} (hne:s.a≠s.b) (h1:crs s t.a=0) (h2:crs s t.b=0):crs t s.a=0∧crs t s.b=0:=by
 have hL:=key_b_pos hne
 obtain⟨a1,a2⟩:=key_along h1
 obtain⟨b1,b2⟩:=key_along h2
 have main:∀ q,crs s q=0→crs t q=0:=fun q hq=>by
  obtain⟨q1,q2⟩:=key_along hq
  have k:key s s.b*(key s s.b*crs t q)=0:=by
   unfold crs
   rw[two_sub,lin_sub b1 a1,lin_sub q2 a2,lin_sub b2 a2,lin_sub q1 a1,two_zero]
  rcases Int.mul_eq_zero.1 k with h | h
  ·omega
  rcases Int.mul_eq_zero.1 h with h | h
  ·omega
  exact h
 exact⟨main _ (crs_a0 s),main _ (crs_b0 s)⟩
theorem commonR_none {s t:Sd}:commonR s t=none↔(crs s t.a≠0∨crs s t.b≠0)∨(endsR s t).length<2:=by
 unfold commonR
 split
 ·rename_i h;exact⟨fun _=>.inl h,fun _=>rfl⟩
 rename_i h
 split
 ·rename_i h2;exact⟨fun _=>.inr h2,fun _=>rfl⟩
 rename_i h2
 constructor
 ·intro h3;split at h3 <;> cases h3
 rintro (h3 | h3)
 ·exact absurd h3 h
 exact absurd h3 h2
theorem commonR_comm {s t:Sd} (hs:s.a≠s.b) (ht:t.a≠t.b):commonR s t=none↔commonR t s=none:=by
 rw[commonR_none,commonR_none,endsR_comm s t]
 have:(crs s t.a≠0∨crs s t.b≠0)↔(crs t s.a≠0∨crs t s.b≠0):=by
  constructor
  ·intro h
   refine Classical.byContradiction fun hn=>?_
   have h1:crs t s.a=0:=by omega
   have h2:crs t s.b=0:=by omega
   obtain⟨e1,e2⟩:=line_comm ht h1 h2
   omega
  intro h
  refine Classical.byContradiction fun hn=>?_
  have h1:crs s t.a=0:=by omega
  have h2:crs s t.b=0:=by omega
  obtain⟨e1,e2⟩:=line_comm hs h1 h2
  omega
 rw[this]
theorem borderR_nil {a b:List Pt}:borderR a b=[]↔∀ s∈sds a,∀ t∈sds b,commonR s t=none:=by
 unfold borderR
 rw[List.flatMap_eq_nil_iff]
 constructor
 ·intro h s hs t ht
  have:=List.filterMap_eq_nil_iff.1 (h s hs) t ht
  exact this
 intro h s hs
 exact List.filterMap_eq_nil_iff.2 fun t ht=>h s hs t ht
theorem nbB_comm {a b:List Pt} (ha:∀ i,i<a.length→(sd a i).a≠(sd a i).b) (hb:∀ i,i<b.length→(sd b i).a≠(sd b i).b):nbB a b=nbB b a:=by
 have hs:∀ (l:List Pt),(∀ i,i<l.length→(sd l i).a≠(sd l i).b)→∀ s∈sds l,s.a≠s.b:=fun l hl s hs=>by
  unfold sds at hs
  obtain⟨i,hi,rfl⟩:=List.mem_map.1 hs
  exact hl i (List.mem_range.1 hi)
 have h:borderP a b=[]↔borderP b a=[]:=by
  rw[←borderR_eq ha hb,←borderR_eq hb ha,borderR_nil,borderR_nil]
  exact⟨fun h s h1 t h2=>(commonR_comm (hs b hb s h1) (hs a ha t h2)).2 (h t h2 s h1),fun h s h1 t h2=>(commonR_comm (hs a ha s h1) (hs b hb t h2)).2 (h t h2 s h1)⟩
 unfold nbB
 rw[Bool.eq_iff_iff,decide_eq_true_iff,decide_eq_true_iff,List.length_pos_iff,List.length_pos_iff,ne_eq,ne_eq,h]
theorem nbL_mem {n:Nat} {g:Nat→Bool} {p:Nat} {z:Int}:z∈nbL n g p↔∃ i:Nat,z=i∧i<n∧i≠p∧g i=true:=by
 unfold nbL
 rw[List.mem_map]
 constructor
 ·rintro⟨i,hi,rfl⟩
  rw[List.mem_filter,List.mem_range] at hi
  obtain⟨h1,h2⟩:=hi
  have h3:(i == p)=false∧g i=true:=by simpa using h2
  exact⟨i,rfl,h1,by simpa using h3.1,h3.2⟩
 rintro⟨i,rfl,h1,h2,h3⟩
 refine⟨i,?_,rfl⟩
 rw[List.mem_filter,List.mem_range]
 exact⟨h1,by simp[h2,h3]⟩
end Cal
end Go.Proofs.YthfokpchdlcidaaGreat
