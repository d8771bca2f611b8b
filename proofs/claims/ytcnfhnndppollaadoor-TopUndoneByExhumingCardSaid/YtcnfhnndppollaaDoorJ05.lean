/- What the statements rest on: definitions and walks, part 05. -/
import Derived.Test.YtcnfhnndppollaaDoorJ04
set_option maxRecDepth 100000
set_option maxHeartbeats 16000000
set_option linter.unusedSimpArgs false
set_option linter.unusedVariables false
namespace Go.Proofs.YtcnfhnndppollaaDoor
open Go Go.RowKit
theorem CheckEvent_any (e:Ev) (w:World) (hn1:e.remain.size≤maxLen) (hn2:e.site.size≤maxLen) :
  Calls Tryd.prog 56 #[.agg #[.int .i64 e.day,.int .i64 e.kind,.string e.site,.int .i64 e.level,.string e.remain,.int .i64 e.cont,.bool e.order]] w fun e' w'=>e'=.returned (.int .i64 (Cal.eventE e))∧Below w.heap.size w w':=by
 obtain⟨day,kind,site,level,remain,cont,order⟩:=e
 dsimp only at hn1 hn2 ⊢
 obtain⟨R,hR⟩:∃ R,R=Cal.eventE ⟨day,kind,site,level,remain,cont,order⟩:=⟨_,rfl⟩
 rw[←hR]
 replace hR:=Lib.hid hR
 have g1:=Lib.hid (BoxAt.new w #[.int .i64 day,.int .i64 kind,.string site,.int .i64 level,.string remain,.int .i64 cont,.bool order] 29)
 have hb:=Lib.hid (below_alloc w (.cells #[.int .i64 day,.int .i64 kind,.string site,.int .i64 level,.string remain,.int .i64 cont,.bool order] 29))
 have hn1:=Lib.hid hn1
 have hn2:=Lib.hid hn2
 by_cases k0:kind=0
 ·have q0:(kind == 0)=true:=by simp[k0]
  have q1:(kind != 1)=true:=by simp[k0]
  have q3:(kind != 3)=true:=by simp[k0]
  have kk:0≤kind∧kind≤4:=by omega
  have kz:Hid True:=trivial
  by_cases hd:0≤day∧day≤200000
  ·cases h1:nameB remain
   ·have hf:Hid (R=4):=by show _=_;rw[hR.out];unfold Cal.eventE;dsimp only;(repeat' split) <;> first | rfl | (exfalso;grind)
    (try clear k0);(try clear k2);(try clear k3)
    go_enter Tryd.func56,Tryd.ntmps56
    go_wp2_with (first
     |(go_at_call 76;(try clear c0 c1 c2 c3 c4 c5 c6);refine (visName_any _ _ (by first | exact hn1.out | exact hn2.out)).mono ?_;rintro e0 wn ⟨rfl,hbn⟩;(first | rw[h1] | rw[h2]);replace g1:=Lib.hid (g1.out.below hbn);replace hb:=Lib.hid (below_step hb.out hbn);clear hbn;(obtain⟨c0,c1,c2,c3⟩:=g1.out.c4;have c4:=g1.out.c 4 _ rfl;have c5:=g1.out.c 5 _ rfl;have c6:=g1.out.c 6 _ rfl))
     |((first | (go_at_call 37) | (go_at_call 23) | (go_at_call 22) | (go_at_call 31) | (go_at_call 69) | (go_at_call 32));first | refine rin ?_ | refine rout ?_ | refine rany ?_))
    go_ret
    exact⟨ret_int hf.out.symm,hb.out⟩
   cases h2:nameB site
   ·have hf:Hid (R=4):=by show _=_;rw[hR.out];unfold Cal.eventE;dsimp only;(repeat' split) <;> first | rfl | (exfalso;grind)
    (try clear k0);(try clear k2);(try clear k3)
    go_enter Tryd.func56,Tryd.ntmps56
    go_wp2_with (first
     |(go_at_call 76;(try clear c0 c1 c2 c3 c4 c5 c6);refine (visName_any _ _ (by first | exact hn1.out | exact hn2.out)).mono ?_;rintro e0 wn ⟨rfl,hbn⟩;(first | rw[h1] | rw[h2]);replace g1:=Lib.hid (g1.out.below hbn);replace hb:=Lib.hid (below_step hb.out hbn);clear hbn;(obtain⟨c0,c1,c2,c3⟩:=g1.out.c4;have c4:=g1.out.c 4 _ rfl;have c5:=g1.out.c 5 _ rfl;have c6:=g1.out.c 6 _ rfl))
     |((first | (go_at_call 37) | (go_at_call 23) | (go_at_call 22) | (go_at_call 31) | (go_at_call 69) | (go_at_call 32));first | refine rin ?_ | refine rout ?_ | refine rany ?_))
    go_ret
    exact⟨ret_int hf.out.symm,hb.out⟩
   by_cases hl:0≤level∧level≤11
   ·by_cases hc:0≤cont∧cont≤2
    ·cases order
     ·have hf:Hid (R=0):=by show _=_;rw[hR.out];unfold Cal.eventE;dsimp only;(repeat' split) <;> first | rfl | (exfalso;grind)
      (try clear k0);(try clear k2);(try clear k3)
      go_enter Tryd.func56,Tryd.ntmps56
      go_wp2_with (first
       |(go_at_call 76;(try clear c0 c1 c2 c3 c4 c5 c6);refine (visName_any _ _ (by first | exact hn1.out | exact hn2.out)).mono ?_;rintro e0 wn ⟨rfl,hbn⟩;(first | rw[h1] | rw[h2]);replace g1:=Lib.hid (g1.out.below hbn);replace hb:=Lib.hid (below_step hb.out hbn);clear hbn;(obtain⟨c0,c1,c2,c3⟩:=g1.out.c4;have c4:=g1.out.c 4 _ rfl;have c5:=g1.out.c 5 _ rfl;have c6:=g1.out.c 6 _ rfl))
       |((first | (go_at_call 37) | (go_at_call 23) | (go_at_call 22) | (go_at_call 31) | (go_at_call 69) | (go_at_call 32));first | refine rin ?_ | refine rout ?_ | refine rany ?_))
      go_ret
      exact⟨ret_int hf.out.symm,hb.out⟩
     have hf:Hid (R=3):=by show _=_;rw[hR.out];unfold Cal.eventE;dsimp only;(repeat' split) <;> first | rfl | (exfalso;grind)
     (try clear k0);(try clear k2);(try clear k3)
     go_enter Tryd.func56,Tryd.ntmps56
     go_wp2_with (first
      |(go_at_call 76;(try clear c0 c1 c2 c3 c4 c5 c6);refine (visName_any _ _ (by first | exact hn1.out | exact hn2.out)).mono ?_;rintro e0 wn ⟨rfl,hbn⟩;(first | rw[h1] | rw[h2]);replace g1:=Lib.hid (g1.out.below hbn);replace hb:=Lib.hid (below_step hb.out hbn);clear hbn;(obtain⟨c0,c1,c2,c3⟩:=g1.out.c4;have c4:=g1.out.c 4 _ rfl;have c5:=g1.out.c 5 _ rfl;have c6:=g1.out.c 6 _ rfl))
      |((first | (go_at_call 37) | (go_at_call 23) | (go_at_call 22) | (go_at_call 31) | (go_at_call 69) | (go_at_call 32));first | refine rin ?_ | refine rout ?_ | refine rany ?_))
     go_ret
     exact⟨ret_int hf.out.symm,hb.out⟩
    have hf:Hid (R=2):=by show _=_;rw[hR.out];unfold Cal.eventE;dsimp only;(repeat' split) <;> first | rfl | (exfalso;grind)
    (try clear k0);(try clear k2);(try clear k3)
    go_enter Tryd.func56,Tryd.ntmps56
    go_wp2_with (first
     |(go_at_call 76;(try clear c0 c1 c2 c3 c4 c5 c6);refine (visName_any _ _ (by first | exact hn1.out | exact hn2.out)).mono ?_;rintro e0 wn ⟨rfl,hbn⟩;(first | rw[h1] | rw[h2]);replace g1:=Lib.hid (g1.out.below hbn);replace hb:=Lib.hid (below_step hb.out hbn);clear hbn;(obtain⟨c0,c1,c2,c3⟩:=g1.out.c4;have c4:=g1.out.c 4 _ rfl;have c5:=g1.out.c 5 _ rfl;have c6:=g1.out.c 6 _ rfl))
     |((first | (go_at_call 37) | (go_at_call 23) | (go_at_call 22) | (go_at_call 31) | (go_at_call 69) | (go_at_call 32));first | refine rin ?_ | refine rout ?_ | refine rany ?_))
    go_ret
    exact⟨ret_int hf.out.symm,hb.out⟩
   have hf:Hid (R=2):=by show _=_;rw[hR.out];unfold Cal.eventE;dsimp only;(repeat' split) <;> first | rfl | (exfalso;grind)
   (try clear k0);(try clear k2);(try clear k3)
   go_enter Tryd.func56,Tryd.ntmps56
   go_wp2_with (first
    |(go_at_call 76;(try clear c0 c1 c2 c3 c4 c5 c6);refine (visName_any _ _ (by first | exact hn1.out | exact hn2.out)).mono ?_;rintro e0 wn ⟨rfl,hbn⟩;(first | rw[h1] | rw[h2]);replace g1:=Lib.hid (g1.out.below hbn);replace hb:=Lib.hid (below_step hb.out hbn);clear hbn;(obtain⟨c0,c1,c2,c3⟩:=g1.out.c4;have c4:=g1.out.c 4 _ rfl;have c5:=g1.out.c 5 _ rfl;have c6:=g1.out.c 6 _ rfl))
    |((first | (go_at_call 37) | (go_at_call 23) | (go_at_call 22) | (go_at_call 31) | (go_at_call 69) | (go_at_call 32));first | refine rin ?_ | refine rout ?_ | refine rany ?_))
   go_ret
   exact⟨ret_int hf.out.symm,hb.out⟩
  have hf:Hid (R=2):=by show _=_;rw[hR.out];unfold Cal.eventE;dsimp only;(repeat' split) <;> first | rfl | (exfalso;grind)
  (try clear k0);(try clear k2);(try clear k3)
  go_enter Tryd.func56,Tryd.ntmps56
  go_wp2_with (first
   |(go_at_call 76;(try clear c0 c1 c2 c3 c4 c5 c6);refine (visName_any _ _ (by first | exact hn1.out | exact hn2.out)).mono ?_;rintro e0 wn ⟨rfl,hbn⟩;(first | rw[h1] | rw[h2]);replace g1:=Lib.hid (g1.out.below hbn);replace hb:=Lib.hid (below_step hb.out hbn);clear hbn;(obtain⟨c0,c1,c2,c3⟩:=g1.out.c4;have c4:=g1.out.c 4 _ rfl;have c5:=g1.out.c 5 _ rfl;have c6:=g1.out.c 6 _ rfl))
   |((first | (go_at_call 37) | (go_at_call 23) | (go_at_call 22) | (go_at_call 31) | (go_at_call 69) | (go_at_call 32));first | refine rin ?_ | refine rout ?_ | refine rany ?_))
  go_ret
  exact⟨ret_int hf.out.symm,hb.out⟩
 have q0:(kind == 0)=false:=by simp[k0]
 by_cases k2:kind=2
 ·have q2:(kind == 2)=true:=by simp[k2]
  have q1:(kind != 1)=true:=by simp[k2]
  have q3:(kind != 3)=true:=by simp[k2]
  have kk:0≤kind∧kind≤4:=by omega
  by_cases hd:0≤day∧day≤200000
  ·cases h1:nameB remain
   ·have hf:Hid (R=4):=by show _=_;rw[hR.out];unfold Cal.eventE;dsimp only;(repeat' split) <;> first | rfl | (exfalso;grind)
    (try clear k0);(try clear k2);(try clear k3)
    go_enter Tryd.func56,Tryd.ntmps56
    go_wp2_with (first
     |(go_at_call 76;(try clear c0 c1 c2 c3 c4 c5 c6);refine (visName_any _ _ (by first | exact hn1.out | exact hn2.out)).mono ?_;rintro e0 wn ⟨rfl,hbn⟩;(first | rw[h1] | rw[h2]);replace g1:=Lib.hid (g1.out.below hbn);replace hb:=Lib.hid (below_step hb.out hbn);clear hbn;(obtain⟨c0,c1,c2,c3⟩:=g1.out.c4;have c4:=g1.out.c 4 _ rfl;have c5:=g1.out.c 5 _ rfl;have c6:=g1.out.c 6 _ rfl))
     |((first | (go_at_call 37) | (go_at_call 23) | (go_at_call 22) | (go_at_call 31) | (go_at_call 69) | (go_at_call 32));first | refine rin ?_ | refine rout ?_ | refine rany ?_))
    go_ret
    exact⟨ret_int hf.out.symm,hb.out⟩
   cases h2:nameB site
   ·have hf:Hid (R=4):=by show _=_;rw[hR.out];unfold Cal.eventE;dsimp only;(repeat' split) <;> first | rfl | (exfalso;grind)
    (try clear k0);(try clear k2);(try clear k3)
    go_enter Tryd.func56,Tryd.ntmps56
    go_wp2_with (first
     |(go_at_call 76;(try clear c0 c1 c2 c3 c4 c5 c6);refine (visName_any _ _ (by first | exact hn1.out | exact hn2.out)).mono ?_;rintro e0 wn ⟨rfl,hbn⟩;(first | rw[h1] | rw[h2]);replace g1:=Lib.hid (g1.out.below hbn);replace hb:=Lib.hid (below_step hb.out hbn);clear hbn;(obtain⟨c0,c1,c2,c3⟩:=g1.out.c4;have c4:=g1.out.c 4 _ rfl;have c5:=g1.out.c 5 _ rfl;have c6:=g1.out.c 6 _ rfl))
     |((first | (go_at_call 37) | (go_at_call 23) | (go_at_call 22) | (go_at_call 31) | (go_at_call 69) | (go_at_call 32));first | refine rin ?_ | refine rout ?_ | refine rany ?_))
    go_ret
    exact⟨ret_int hf.out.symm,hb.out⟩
   by_cases hl:0≤level∧level≤11
   ·by_cases hc:0≤cont∧cont≤2
    ·cases order
     ·have hf:Hid (R=0):=by show _=_;rw[hR.out];unfold Cal.eventE;dsimp only;(repeat' split) <;> first | rfl | (exfalso;grind)
      (try clear k0);(try clear k2);(try clear k3)
      go_enter Tryd.func56,Tryd.ntmps56
      go_wp2_with (first
       |(go_at_call 76;(try clear c0 c1 c2 c3 c4 c5 c6);refine (visName_any _ _ (by first | exact hn1.out | exact hn2.out)).mono ?_;rintro e0 wn ⟨rfl,hbn⟩;(first | rw[h1] | rw[h2]);replace g1:=Lib.hid (g1.out.below hbn);replace hb:=Lib.hid (below_step hb.out hbn);clear hbn;(obtain⟨c0,c1,c2,c3⟩:=g1.out.c4;have c4:=g1.out.c 4 _ rfl;have c5:=g1.out.c 5 _ rfl;have c6:=g1.out.c 6 _ rfl))
       |((first | (go_at_call 37) | (go_at_call 23) | (go_at_call 22) | (go_at_call 31) | (go_at_call 69) | (go_at_call 32));first | refine rin ?_ | refine rout ?_ | refine rany ?_))
      go_ret
      exact⟨ret_int hf.out.symm,hb.out⟩
     have hf:Hid (R=3):=by show _=_;rw[hR.out];unfold Cal.eventE;dsimp only;(repeat' split) <;> first | rfl | (exfalso;grind)
     (try clear k0);(try clear k2);(try clear k3)
     go_enter Tryd.func56,Tryd.ntmps56
     go_wp2_with (first
      |(go_at_call 76;(try clear c0 c1 c2 c3 c4 c5 c6);refine (visName_any _ _ (by first | exact hn1.out | exact hn2.out)).mono ?_;rintro e0 wn ⟨rfl,hbn⟩;(first | rw[h1] | rw[h2]);replace g1:=Lib.hid (g1.out.below hbn);replace hb:=Lib.hid (below_step hb.out hbn);clear hbn;(obtain⟨c0,c1,c2,c3⟩:=g1.out.c4;have c4:=g1.out.c 4 _ rfl;have c5:=g1.out.c 5 _ rfl;have c6:=g1.out.c 6 _ rfl))
      |((first | (go_at_call 37) | (go_at_call 23) | (go_at_call 22) | (go_at_call 31) | (go_at_call 69) | (go_at_call 32));first | refine rin ?_ | refine rout ?_ | refine rany ?_))
     go_ret
     exact⟨ret_int hf.out.symm,hb.out⟩
    have hf:Hid (R=2):=by show _=_;rw[hR.out];unfold Cal.eventE;dsimp only;(repeat' split) <;> first | rfl | (exfalso;grind)
    (try clear k0);(try clear k2);(try clear k3)
    go_enter Tryd.func56,Tryd.ntmps56
    go_wp2_with (first
     |(go_at_call 76;(try clear c0 c1 c2 c3 c4 c5 c6);refine (visName_any _ _ (by first | exact hn1.out | exact hn2.out)).mono ?_;rintro e0 wn ⟨rfl,hbn⟩;(first | rw[h1] | rw[h2]);replace g1:=Lib.hid (g1.out.below hbn);replace hb:=Lib.hid (below_step hb.out hbn);clear hbn;(obtain⟨c0,c1,c2,c3⟩:=g1.out.c4;have c4:=g1.out.c 4 _ rfl;have c5:=g1.out.c 5 _ rfl;have c6:=g1.out.c 6 _ rfl))
     |((first | (go_at_call 37) | (go_at_call 23) | (go_at_call 22) | (go_at_call 31) | (go_at_call 69) | (go_at_call 32));first | refine rin ?_ | refine rout ?_ | refine rany ?_))
    go_ret
    exact⟨ret_int hf.out.symm,hb.out⟩
   have hf:Hid (R=2):=by show _=_;rw[hR.out];unfold Cal.eventE;dsimp only;(repeat' split) <;> first | rfl | (exfalso;grind)
   (try clear k0);(try clear k2);(try clear k3)
   go_enter Tryd.func56,Tryd.ntmps56
   go_wp2_with (first
    |(go_at_call 76;(try clear c0 c1 c2 c3 c4 c5 c6);refine (visName_any _ _ (by first | exact hn1.out | exact hn2.out)).mono ?_;rintro e0 wn ⟨rfl,hbn⟩;(first | rw[h1] | rw[h2]);replace g1:=Lib.hid (g1.out.below hbn);replace hb:=Lib.hid (below_step hb.out hbn);clear hbn;(obtain⟨c0,c1,c2,c3⟩:=g1.out.c4;have c4:=g1.out.c 4 _ rfl;have c5:=g1.out.c 5 _ rfl;have c6:=g1.out.c 6 _ rfl))
    |((first | (go_at_call 37) | (go_at_call 23) | (go_at_call 22) | (go_at_call 31) | (go_at_call 69) | (go_at_call 32));first | refine rin ?_ | refine rout ?_ | refine rany ?_))
   go_ret
   exact⟨ret_int hf.out.symm,hb.out⟩
  have hf:Hid (R=2):=by show _=_;rw[hR.out];unfold Cal.eventE;dsimp only;(repeat' split) <;> first | rfl | (exfalso;grind)
  (try clear k0);(try clear k2);(try clear k3)
  go_enter Tryd.func56,Tryd.ntmps56
  go_wp2_with (first
   |(go_at_call 76;(try clear c0 c1 c2 c3 c4 c5 c6);refine (visName_any _ _ (by first | exact hn1.out | exact hn2.out)).mono ?_;rintro e0 wn ⟨rfl,hbn⟩;(first | rw[h1] | rw[h2]);replace g1:=Lib.hid (g1.out.below hbn);replace hb:=Lib.hid (below_step hb.out hbn);clear hbn;(obtain⟨c0,c1,c2,c3⟩:=g1.out.c4;have c4:=g1.out.c 4 _ rfl;have c5:=g1.out.c 5 _ rfl;have c6:=g1.out.c 6 _ rfl))
   |((first | (go_at_call 37) | (go_at_call 23) | (go_at_call 22) | (go_at_call 31) | (go_at_call 69) | (go_at_call 32));first | refine rin ?_ | refine rout ?_ | refine rany ?_))
  go_ret
  exact⟨ret_int hf.out.symm,hb.out⟩
 have q2:(kind == 2)=false:=by simp[k2]
 by_cases k3:kind=3
 ·have q3:(kind == 3)=true:=by simp[k3]
  have q4:(kind != 3)=false:=by simp[k3]
  have q1:(kind != 1)=true:=by simp[k3]
  have kk:0≤kind∧kind≤4:=by omega
  by_cases hd:0≤day∧day≤200000
  ·cases h1:nameB remain
   ·have hf:Hid (R=4):=by show _=_;rw[hR.out];unfold Cal.eventE;dsimp only;(repeat' split) <;> first | rfl | (exfalso;grind)
    (try clear k0);(try clear k2);(try clear k3)
    go_enter Tryd.func56,Tryd.ntmps56
    go_wp2_with (first
     |(go_at_call 76;(try clear c0 c1 c2 c3 c4 c5 c6);refine (visName_any _ _ (by first | exact hn1.out | exact hn2.out)).mono ?_;rintro e0 wn ⟨rfl,hbn⟩;(first | rw[h1] | rw[h2]);replace g1:=Lib.hid (g1.out.below hbn);replace hb:=Lib.hid (below_step hb.out hbn);clear hbn;(obtain⟨c0,c1,c2,c3⟩:=g1.out.c4;have c4:=g1.out.c 4 _ rfl;have c5:=g1.out.c 5 _ rfl;have c6:=g1.out.c 6 _ rfl))
     |((first | (go_at_call 37) | (go_at_call 23) | (go_at_call 22) | (go_at_call 31) | (go_at_call 69) | (go_at_call 32));first | refine rin ?_ | refine rout ?_ | refine rany ?_))
    go_ret
    exact⟨ret_int hf.out.symm,hb.out⟩
   by_cases hl:0≤level∧level≤11
   ·by_cases hs0:site.size=0
    ·have he:=isEmpty_yes hs0
     have he2:site.toList=[]:=by simpa using he
     by_cases hc:cont=0
     ·have hcq:(cont != 0)=false:=by simp[hc]
      have hf:Hid (R=0):=by show _=_;rw[hR.out];unfold Cal.eventE;dsimp only;(repeat' split) <;> first | rfl | (exfalso;grind)
      clear hc hs0
      cases order
      ·(try clear k0);(try clear k2);(try clear k3)
       go_enter Tryd.func56,Tryd.ntmps56
       go_wp2_with (first
        |(go_at_call 76;(try clear c0 c1 c2 c3 c4 c5 c6);refine (visName_any _ _ (by first | exact hn1.out | exact hn2.out)).mono ?_;rintro e0 wn ⟨rfl,hbn⟩;(first | rw[h1] | rw[h2]);replace g1:=Lib.hid (g1.out.below hbn);replace hb:=Lib.hid (below_step hb.out hbn);clear hbn;(obtain⟨c0,c1,c2,c3⟩:=g1.out.c4;have c4:=g1.out.c 4 _ rfl;have c5:=g1.out.c 5 _ rfl;have c6:=g1.out.c 6 _ rfl))
        |((first | (go_at_call 37) | (go_at_call 23) | (go_at_call 22) | (go_at_call 31) | (go_at_call 69) | (go_at_call 32));first | refine rin ?_ | refine rout ?_ | refine rany ?_))
       go_ret
       exact⟨ret_int hf.out.symm,hb.out⟩
      (try clear k0);(try clear k2);(try clear k3)
      go_enter Tryd.func56,Tryd.ntmps56
      go_wp2_with (first
       |(go_at_call 76;(try clear c0 c1 c2 c3 c4 c5 c6);refine (visName_any _ _ (by first | exact hn1.out | exact hn2.out)).mono ?_;rintro e0 wn ⟨rfl,hbn⟩;(first | rw[h1] | rw[h2]);replace g1:=Lib.hid (g1.out.below hbn);replace hb:=Lib.hid (below_step hb.out hbn);clear hbn;(obtain⟨c0,c1,c2,c3⟩:=g1.out.c4;have c4:=g1.out.c 4 _ rfl;have c5:=g1.out.c 5 _ rfl;have c6:=g1.out.c 6 _ rfl))
       |((first | (go_at_call 37) | (go_at_call 23) | (go_at_call 22) | (go_at_call 31) | (go_at_call 69) | (go_at_call 32));first | refine rin ?_ | refine rout ?_ | refine rany ?_))
      go_ret
      exact⟨ret_int hf.out.symm,hb.out⟩
     have hcq:(cont != 0)=true:=by simp[hc]
     have hf:Hid (R=3):=by show _=_;rw[hR.out];unfold Cal.eventE;dsimp only;(repeat' split) <;> first | rfl | (exfalso;grind)
     clear hc hs0
     (try clear k0);(try clear k2);(try clear k3)
     go_enter Tryd.func56,Tryd.ntmps56
     go_wp2_with (first
      |(go_at_call 76;(try clear c0 c1 c2 c3 c4 c5 c6);refine (visName_any _ _ (by first | exact hn1.out | exact hn2.out)).mono ?_;rintro e0 wn ⟨rfl,hbn⟩;(first | rw[h1] | rw[h2]);replace g1:=Lib.hid (g1.out.below hbn);replace hb:=Lib.hid (below_step hb.out hbn);clear hbn;(obtain⟨c0,c1,c2,c3⟩:=g1.out.c4;have c4:=g1.out.c 4 _ rfl;have c5:=g1.out.c 5 _ rfl;have c6:=g1.out.c 6 _ rfl))
      |((first | (go_at_call 37) | (go_at_call 23) | (go_at_call 22) | (go_at_call 31) | (go_at_call 69) | (go_at_call 32));first | refine rin ?_ | refine rout ?_ | refine rany ?_))
     go_ret
     exact⟨ret_int hf.out.symm,hb.out⟩
    have he:=isEmpty_no (s:=site) (by omega)
    have he2:¬site.toList=[]:=by intro h;rw[h] at he;cases he
    have hf:Hid (R=3):=by show _=_;rw[hR.out];unfold Cal.eventE;dsimp only;(repeat' split) <;> first | rfl | (exfalso;grind)
    clear hs0
    (try clear k0);(try clear k2);(try clear k3)
    go_enter Tryd.func56,Tryd.ntmps56
    go_wp2_with (first
     |(go_at_call 76;(try clear c0 c1 c2 c3 c4 c5 c6);refine (visName_any _ _ (by first | exact hn1.out | exact hn2.out)).mono ?_;rintro e0 wn ⟨rfl,hbn⟩;(first | rw[h1] | rw[h2]);replace g1:=Lib.hid (g1.out.below hbn);replace hb:=Lib.hid (below_step hb.out hbn);clear hbn;(obtain⟨c0,c1,c2,c3⟩:=g1.out.c4;have c4:=g1.out.c 4 _ rfl;have c5:=g1.out.c 5 _ rfl;have c6:=g1.out.c 6 _ rfl))
     |((first | (go_at_call 37) | (go_at_call 23) | (go_at_call 22) | (go_at_call 31) | (go_at_call 69) | (go_at_call 32));first | refine rin ?_ | refine rout ?_ | refine rany ?_))
    go_ret
    exact⟨ret_int hf.out.symm,hb.out⟩
   have hf:Hid (R=2):=by show _=_;rw[hR.out];unfold Cal.eventE;dsimp only;(repeat' split) <;> first | rfl | (exfalso;grind)
   (try clear k0);(try clear k2);(try clear k3)
   go_enter Tryd.func56,Tryd.ntmps56
   go_wp2_with (first
    |(go_at_call 76;(try clear c0 c1 c2 c3 c4 c5 c6);refine (visName_any _ _ (by first | exact hn1.out | exact hn2.out)).mono ?_;rintro e0 wn ⟨rfl,hbn⟩;(first | rw[h1] | rw[h2]);replace g1:=Lib.hid (g1.out.below hbn);replace hb:=Lib.hid (below_step hb.out hbn);clear hbn;(obtain⟨c0,c1,c2,c3⟩:=g1.out.c4;have c4:=g1.out.c 4 _ rfl;have c5:=g1.out.c 5 _ rfl;have c6:=g1.out.c 6 _ rfl))
    |((first | (go_at_call 37) | (go_at_call 23) | (go_at_call 22) | (go_at_call 31) | (go_at_call 69) | (go_at_call 32));first | refine rin ?_ | refine rout ?_ | refine rany ?_))
   go_ret
   exact⟨ret_int hf.out.symm,hb.out⟩
  have hf:Hid (R=2):=by show _=_;rw[hR.out];unfold Cal.eventE;dsimp only;(repeat' split) <;> first | rfl | (exfalso;grind)
  (try clear k0);(try clear k2);(try clear k3)
  go_enter Tryd.func56,Tryd.ntmps56
  go_wp2_with (first
   |(go_at_call 76;(try clear c0 c1 c2 c3 c4 c5 c6);refine (visName_any _ _ (by first | exact hn1.out | exact hn2.out)).mono ?_;rintro e0 wn ⟨rfl,hbn⟩;(first | rw[h1] | rw[h2]);replace g1:=Lib.hid (g1.out.below hbn);replace hb:=Lib.hid (below_step hb.out hbn);clear hbn;(obtain⟨c0,c1,c2,c3⟩:=g1.out.c4;have c4:=g1.out.c 4 _ rfl;have c5:=g1.out.c 5 _ rfl;have c6:=g1.out.c 6 _ rfl))
   |((first | (go_at_call 37) | (go_at_call 23) | (go_at_call 22) | (go_at_call 31) | (go_at_call 69) | (go_at_call 32));first | refine rin ?_ | refine rout ?_ | refine rany ?_))
  go_ret
  exact⟨ret_int hf.out.symm,hb.out⟩
 have q3:(kind == 3)=false:=by simp[k3]
 have q4:(kind != 3)=true:=by simp[k3]
 by_cases hd:0≤day∧day≤200000
 ·by_cases kk:0≤kind∧kind≤4
  ·cases h1:nameB remain
   ·have hf:Hid (R=4):=by show _=_;rw[hR.out];unfold Cal.eventE;dsimp only;(repeat' split) <;> first | rfl | (exfalso;grind)
    (try clear k0);(try clear k2);(try clear k3)
    go_enter Tryd.func56,Tryd.ntmps56
    go_wp2_with (first
     |(go_at_call 76;(try clear c0 c1 c2 c3 c4 c5 c6);refine (visName_any _ _ (by first | exact hn1.out | exact hn2.out)).mono ?_;rintro e0 wn ⟨rfl,hbn⟩;(first | rw[h1] | rw[h2]);replace g1:=Lib.hid (g1.out.below hbn);replace hb:=Lib.hid (below_step hb.out hbn);clear hbn;(obtain⟨c0,c1,c2,c3⟩:=g1.out.c4;have c4:=g1.out.c 4 _ rfl;have c5:=g1.out.c 5 _ rfl;have c6:=g1.out.c 6 _ rfl))
     |((first | (go_at_call 37) | (go_at_call 23) | (go_at_call 22) | (go_at_call 31) | (go_at_call 69) | (go_at_call 32));first | refine rin ?_ | refine rout ?_ | refine rany ?_))
    go_ret
    exact⟨ret_int hf.out.symm,hb.out⟩
   by_cases hs0:site.size=0
   ·have he:=isEmpty_yes hs0
    have he2:site.toList=[]:=by simpa using he
    by_cases hc:cont=0
    ·have hcq:(cont != 0)=false:=by simp[hc]
     by_cases hl:level=0
     ·have hlq:(level != 0)=false:=by simp[hl]
      by_cases k1:kind=1
      ·have q1:(kind != 1)=false:=by simp[k1]
       have hf:Hid (R=0):=by show _=_;rw[hR.out];unfold Cal.eventE;dsimp only;(repeat' split) <;> first | rfl | (exfalso;grind)
       clear hc hs0 hl k1
       cases order
       ·(try clear k0);(try clear k2);(try clear k3)
        go_enter Tryd.func56,Tryd.ntmps56
        go_wp2_with (first
         |(go_at_call 76;(try clear c0 c1 c2 c3 c4 c5 c6);refine (visName_any _ _ (by first | exact hn1.out | exact hn2.out)).mono ?_;rintro e0 wn ⟨rfl,hbn⟩;(first | rw[h1] | rw[h2]);replace g1:=Lib.hid (g1.out.below hbn);replace hb:=Lib.hid (below_step hb.out hbn);clear hbn;(obtain⟨c0,c1,c2,c3⟩:=g1.out.c4;have c4:=g1.out.c 4 _ rfl;have c5:=g1.out.c 5 _ rfl;have c6:=g1.out.c 6 _ rfl))
         |((first | (go_at_call 37) | (go_at_call 23) | (go_at_call 22) | (go_at_call 31) | (go_at_call 69) | (go_at_call 32));first | refine rin ?_ | refine rout ?_ | refine rany ?_))
        go_ret
        exact⟨ret_int hf.out.symm,hb.out⟩
       (try clear k0);(try clear k2);(try clear k3)
       go_enter Tryd.func56,Tryd.ntmps56
       go_wp2_with (first
        |(go_at_call 76;(try clear c0 c1 c2 c3 c4 c5 c6);refine (visName_any _ _ (by first | exact hn1.out | exact hn2.out)).mono ?_;rintro e0 wn ⟨rfl,hbn⟩;(first | rw[h1] | rw[h2]);replace g1:=Lib.hid (g1.out.below hbn);replace hb:=Lib.hid (below_step hb.out hbn);clear hbn;(obtain⟨c0,c1,c2,c3⟩:=g1.out.c4;have c4:=g1.out.c 4 _ rfl;have c5:=g1.out.c 5 _ rfl;have c6:=g1.out.c 6 _ rfl))
        |((first | (go_at_call 37) | (go_at_call 23) | (go_at_call 22) | (go_at_call 31) | (go_at_call 69) | (go_at_call 32));first | refine rin ?_ | refine rout ?_ | refine rany ?_))
       go_ret
       exact⟨ret_int hf.out.symm,hb.out⟩
      have q1:(kind != 1)=true:=by simp[k1]
      cases order
      ·have hf:Hid (R=0):=by show _=_;rw[hR.out];unfold Cal.eventE;dsimp only;(repeat' split) <;> first | rfl | (exfalso;grind)
       clear hc hs0 hl k1
       (try clear k0);(try clear k2);(try clear k3)
       go_enter Tryd.func56,Tryd.ntmps56
       go_wp2_with (first
        |(go_at_call 76;(try clear c0 c1 c2 c3 c4 c5 c6);refine (visName_any _ _ (by first | exact hn1.out | exact hn2.out)).mono ?_;rintro e0 wn ⟨rfl,hbn⟩;(first | rw[h1] | rw[h2]);replace g1:=Lib.hid (g1.out.below hbn);replace hb:=Lib.hid (below_step hb.out hbn);clear hbn;(obtain⟨c0,c1,c2,c3⟩:=g1.out.c4;have c4:=g1.out.c 4 _ rfl;have c5:=g1.out.c 5 _ rfl;have c6:=g1.out.c 6 _ rfl))
        |((first | (go_at_call 37) | (go_at_call 23) | (go_at_call 22) | (go_at_call 31) | (go_at_call 69) | (go_at_call 32));first | refine rin ?_ | refine rout ?_ | refine rany ?_))
       go_ret
       exact⟨ret_int hf.out.symm,hb.out⟩
      have hf:Hid (R=3):=by show _=_;rw[hR.out];unfold Cal.eventE;dsimp only;(repeat' split) <;> first | rfl | (exfalso;grind)
      clear hc hs0 hl k1
      (try clear k0);(try clear k2);(try clear k3)
      go_enter Tryd.func56,Tryd.ntmps56
      go_wp2_with (first
       |(go_at_call 76;(try clear c0 c1 c2 c3 c4 c5 c6);refine (visName_any _ _ (by first | exact hn1.out | exact hn2.out)).mono ?_;rintro e0 wn ⟨rfl,hbn⟩;(first | rw[h1] | rw[h2]);replace g1:=Lib.hid (g1.out.below hbn);replace hb:=Lib.hid (below_step hb.out hbn);clear hbn;(obtain⟨c0,c1,c2,c3⟩:=g1.out.c4;have c4:=g1.out.c 4 _ rfl;have c5:=g1.out.c 5 _ rfl;have c6:=g1.out.c 6 _ rfl))
       |((first | (go_at_call 37) | (go_at_call 23) | (go_at_call 22) | (go_at_call 31) | (go_at_call 69) | (go_at_call 32));first | refine rin ?_ | refine rout ?_ | refine rany ?_))
      go_ret
      exact⟨ret_int hf.out.symm,hb.out⟩
     have hlq:(level != 0)=true:=by simp[hl]
     have hf:Hid (R=3):=by show _=_;rw[hR.out];unfold Cal.eventE;dsimp only;(repeat' split) <;> first | rfl | (exfalso;grind)
     clear hc hs0 hl
     (try clear k0);(try clear k2);(try clear k3)
     go_enter Tryd.func56,Tryd.ntmps56
     go_wp2_with (first
      |(go_at_call 76;(try clear c0 c1 c2 c3 c4 c5 c6);refine (visName_any _ _ (by first | exact hn1.out | exact hn2.out)).mono ?_;rintro e0 wn ⟨rfl,hbn⟩;(first | rw[h1] | rw[h2]);replace g1:=Lib.hid (g1.out.below hbn);replace hb:=Lib.hid (below_step hb.out hbn);clear hbn;(obtain⟨c0,c1,c2,c3⟩:=g1.out.c4;have c4:=g1.out.c 4 _ rfl;have c5:=g1.out.c 5 _ rfl;have c6:=g1.out.c 6 _ rfl))
      |((first | (go_at_call 37) | (go_at_call 23) | (go_at_call 22) | (go_at_call 31) | (go_at_call 69) | (go_at_call 32));first | refine rin ?_ | refine rout ?_ | refine rany ?_))
     go_ret
     exact⟨ret_int hf.out.symm,hb.out⟩
    have hcq:(cont != 0)=true:=by simp[hc]
    have hf:Hid (R=3):=by show _=_;rw[hR.out];unfold Cal.eventE;dsimp only;(repeat' split) <;> first | rfl | (exfalso;grind)
    clear hc hs0
    (try clear k0);(try clear k2);(try clear k3)
    go_enter Tryd.func56,Tryd.ntmps56
    go_wp2_with (first
     |(go_at_call 76;(try clear c0 c1 c2 c3 c4 c5 c6);refine (visName_any _ _ (by first | exact hn1.out | exact hn2.out)).mono ?_;rintro e0 wn ⟨rfl,hbn⟩;(first | rw[h1] | rw[h2]);replace g1:=Lib.hid (g1.out.below hbn);replace hb:=Lib.hid (below_step hb.out hbn);clear hbn;(obtain⟨c0,c1,c2,c3⟩:=g1.out.c4;have c4:=g1.out.c 4 _ rfl;have c5:=g1.out.c 5 _ rfl;have c6:=g1.out.c 6 _ rfl))
     |((first | (go_at_call 37) | (go_at_call 23) | (go_at_call 22) | (go_at_call 31) | (go_at_call 69) | (go_at_call 32));first | refine rin ?_ | refine rout ?_ | refine rany ?_))
    go_ret
    exact⟨ret_int hf.out.symm,hb.out⟩
   have he:=isEmpty_no (s:=site) (by omega)
   have he2:¬site.toList=[]:=by intro h;rw[h] at he;cases he
   have hf:Hid (R=3):=by show _=_;rw[hR.out];unfold Cal.eventE;dsimp only;(repeat' split) <;> first | rfl | (exfalso;grind)
   clear hs0
   (try clear k0);(try clear k2);(try clear k3)
   go_enter Tryd.func56,Tryd.ntmps56
   go_wp2_with (first
    |(go_at_call 76;(try clear c0 c1 c2 c3 c4 c5 c6);refine (visName_any _ _ (by first | exact hn1.out | exact hn2.out)).mono ?_;rintro e0 wn ⟨rfl,hbn⟩;(first | rw[h1] | rw[h2]);replace g1:=Lib.hid (g1.out.below hbn);replace hb:=Lib.hid (below_step hb.out hbn);clear hbn;(obtain⟨c0,c1,c2,c3⟩:=g1.out.c4;have c4:=g1.out.c 4 _ rfl;have c5:=g1.out.c 5 _ rfl;have c6:=g1.out.c 6 _ rfl))
    |((first | (go_at_call 37) | (go_at_call 23) | (go_at_call 22) | (go_at_call 31) | (go_at_call 69) | (go_at_call 32));first | refine rin ?_ | refine rout ?_ | refine rany ?_))
   go_ret
   exact⟨ret_int hf.out.symm,hb.out⟩
  have hf:Hid (R=15):=by show _=_;rw[hR.out];unfold Cal.eventE;dsimp only;(repeat' split) <;> first | rfl | (exfalso;grind)
  (try clear k0);(try clear k2);(try clear k3)
  go_enter Tryd.func56,Tryd.ntmps56
  go_wp2_with (first
   |(go_at_call 76;(try clear c0 c1 c2 c3 c4 c5 c6);refine (visName_any _ _ (by first | exact hn1.out | exact hn2.out)).mono ?_;rintro e0 wn ⟨rfl,hbn⟩;(first | rw[h1] | rw[h2]);replace g1:=Lib.hid (g1.out.below hbn);replace hb:=Lib.hid (below_step hb.out hbn);clear hbn;(obtain⟨c0,c1,c2,c3⟩:=g1.out.c4;have c4:=g1.out.c 4 _ rfl;have c5:=g1.out.c 5 _ rfl;have c6:=g1.out.c 6 _ rfl))
   |((first | (go_at_call 37) | (go_at_call 23) | (go_at_call 22) | (go_at_call 31) | (go_at_call 69) | (go_at_call 32));first | refine rin ?_ | refine rout ?_ | refine rany ?_))
  go_ret
  exact⟨ret_int hf.out.symm,hb.out⟩
 have hf:Hid (R=2):=by show _=_;rw[hR.out];unfold Cal.eventE;dsimp only;(repeat' split) <;> first | rfl | (exfalso;grind)
 (try clear k0);(try clear k2);(try clear k3)
 go_enter Tryd.func56,Tryd.ntmps56
 go_wp2_with (first
  |(go_at_call 76;(try clear c0 c1 c2 c3 c4 c5 c6);refine (visName_any _ _ (by first | exact hn1.out | exact hn2.out)).mono ?_;rintro e0 wn ⟨rfl,hbn⟩;(first | rw[h1] | rw[h2]);replace g1:=Lib.hid (g1.out.below hbn);replace hb:=Lib.hid (below_step hb.out hbn);clear hbn;(obtain⟨c0,c1,c2,c3⟩:=g1.out.c4;have c4:=g1.out.c 4 _ rfl;have c5:=g1.out.c 5 _ rfl;have c6:=g1.out.c 6 _ rfl))
  |((first | (go_at_call 37) | (go_at_call 23) | (go_at_call 22) | (go_at_call 31) | (go_at_call 69) | (go_at_call 32));first | refine rin ?_ | refine rout ?_ | refine rany ?_))
 go_ret
 exact⟨ret_int hf.out.symm,hb.out⟩
end Go.Proofs.YtcnfhnndppollaaDoor
namespace Go.Proofs.YtcnfhnndppollaaDoor
open Go Go.RowKit Go.Maps
theorem vstoreH {P:Program} {ops:Array Oper} {Q:Exit→Act→World→Prop} {md:Region.Mode} {S:World→Prop} (i:Nat) {op:Oper} {fuel:Nat} {listed:Array Bool} {a:Act} {w:World} (ty:TypeId) (e f:Operand) (b o:Nat) (cells:Array Value)
  (hr:Region.ready md ops listed=[i]) (ho:ops[i]?=some op) (hst:op.op=.store ty e f) (hw:Region.wanted op (yielded ops a.tmps)=true)
  (hx:a.eval e=.pointer (some ⟨b,o,none⟩)) (hy:a.eval f=.agg cells) (ht:w.there b o cells.size) (hi:(P.info? ty).map (·.size)=some cells.size) (h1:cells.all (·.oneCell')=true)
  (hS:S (w.setCells b o cells.toList)) (h:S (w.setCells b o cells.toList)→wpAnyH P md ops Q S fuel (listed.setIfInBounds i true) (a.put op.dst undef) (w.setCells b o cells.toList)):wpAnyH P md ops Q S (fuel+1) listed a w :=
 wpAnyH_ready (rs:=[i]) hr (by simp) (AllReadyH.cons ho (fun K hK=>by
  rw[if_pos hw]
  exact wp_store_mid ty e f hst b o cells hx hy ht hi h1 (hK.out _ _ hS h)) AllReadyH.nil)
theorem Sx.keep {w W W':World} {L:List (Nat × Nat × Value)} {b:Nat} (h:Sx w L W) (hg:W.grownBy W' (some b)) (hL:∀ x∈L,x.1≠b∧x.1<W.heap.size) (hb:w.heap.size≤b):Sx w L W' :=
 ⟨fun x hx=>(World.cell?_of_block (a:=⟨x.1,x.2.1,none⟩) (hg.block x.1 (hL x hx).2 (fun e=>(hL x hx).1 (by cases e;rfl)))).trans (h.cs x hx),below_of_grownB h.bel hg hb⟩
structure ErJ (w:World) (e:Ev) (O:Nat) (old nx:Lot) (W:World):Prop where
 e:BoxAt W w.heap.size [.int .i64 e.day,.int .i64 e.kind,.string e.site,.int .i64 e.level,.string e.remain,.int .i64 e.cont,.bool e.order]
 r:BoxAt W (w.heap.size+1) [.string ⟨#[]⟩,.int .i64 0,.string ⟨#[]⟩,.int .i64 0,.int .i64 0,.int .i64 0]
 old:BoxAt W O [.string old.remain,.int .i64 old.state,.string old.site,.int .i64 old.level,.int .i64 old.cont,.int .i64 old.since]
 nx:BoxAt W (O+1) [.string nx.remain,.int .i64 nx.state,.string nx.site,.int .i64 nx.level,.int .i64 nx.cont,.int .i64 nx.since]
 lt:w.heap.size+1<O
 bel:Below w.heap.size w W
theorem ErJ.below {w:World} {e:Ev} {O:Nat} {old nx:Lot} {W W':World} (h:ErJ w e O old nx W) (hb:Below W.heap.size W W'):ErJ w e O old nx W':=⟨h.e.below hb,h.r.below hb,h.old.below hb,h.nx.below hb,h.lt,below_step h.bel hb⟩
theorem ErJ.next {w:World} {e:Ev} {O:Nat} {old nx nx':Lot} {W W':World} (h:ErJ w e O old nx W) (hn:BoxAt W' (O+1) [.string nx'.remain,.int .i64 nx'.state,.string nx'.site,.int .i64 nx'.level,.int .i64 nx'.cont,.int .i64 nx'.since]) (hg:W.grownBy W' (some (O+1))):ErJ w e O old nx' W':=by
 have hlt:=h.lt
 exact⟨h.e.grown hg (by simp;omega),h.r.grown hg (by simp;omega),h.old.grown hg (by simp),hn,h.lt,below_of_grownB h.bel hg (by omega)⟩
structure ErI (w:World) (e:Ev) (W:World):Prop where
 e:BoxAt W w.heap.size [.int .i64 e.day,.int .i64 e.kind,.string e.site,.int .i64 e.level,.string e.remain,.int .i64 e.cont,.bool e.order]
 r:BoxAt W (w.heap.size+1) [.string ⟨#[]⟩,.int .i64 0,.string ⟨#[]⟩,.int .i64 0,.int .i64 0,.int .i64 0]
 bel:Below w.heap.size w W
theorem ErI.below {w:World} {e:Ev} {W W':World} (h:ErI w e W) (hb:Below W.heap.size W W'):ErI w e W':=⟨h.e.below hb,h.r.below hb,below_step h.bel hb⟩
theorem ErI.start (w:World) (e:Ev):ErI w e ((w.alloc (.cells #[.int .i64 e.day,.int .i64 e.kind,.string e.site,.int .i64 e.level,.string e.remain,.int .i64 e.cont,.bool e.order] 29)).alloc (.cells #[.string ⟨#[]⟩,.int .i64 0,.string ⟨#[]⟩,.int .i64 0,.int .i64 0,.int .i64 0] 38)):=by
 have h:=BoxAt.new (w.alloc (.cells #[.int .i64 e.day,.int .i64 e.kind,.string e.site,.int .i64 e.level,.string e.remain,.int .i64 e.cont,.bool e.order] 29)) #[.string ⟨#[]⟩,.int .i64 0,.string ⟨#[]⟩,.int .i64 0,.int .i64 0,.int .i64 0] 38
 rw[World.size_alloc] at h
 exact⟨(BoxAt.new w #[.int .i64 e.day,.int .i64 e.kind,.string e.site,.int .i64 e.level,.string e.remain,.int .i64 e.cont,.bool e.order] 29).alloc _,h,below_step (below_alloc _ _) (below_alloc _ _)⟩
def nx0 (e:Ev):Lot:=⟨e.remain,0,⟨#[]⟩,0,0,e.day⟩
theorem ErI.two {w W:World} {e:Ev} (h:ErI w e W) (old:Lot):ErJ w e W.heap.size old (nx0 e) ((W.alloc (.cells #[.string old.remain,.int .i64 old.state,.string old.site,.int .i64 old.level,.int .i64 old.cont,.int .i64 old.since] 38)).alloc (.cells #[.string e.remain,.int .i64 0,.string ⟨#[]⟩,.int .i64 0,.int .i64 0,.int .i64 e.day] 38)):=by
 have hb:=below_step (below_alloc W (.cells #[.string old.remain,.int .i64 old.state,.string old.site,.int .i64 old.level,.int .i64 old.cont,.int .i64 old.since] 38)) (below_alloc (W.alloc (.cells #[.string old.remain,.int .i64 old.state,.string old.site,.int .i64 old.level,.int .i64 old.cont,.int .i64 old.since] 38)) (.cells #[.string e.remain,.int .i64 0,.string ⟨#[]⟩,.int .i64 0,.int .i64 0,.int .i64 e.day] 38))
 have h2:=BoxAt.new (W.alloc (.cells #[.string old.remain,.int .i64 old.state,.string old.site,.int .i64 old.level,.int .i64 old.cont,.int .i64 old.since] 38)) #[.string e.remain,.int .i64 0,.string ⟨#[]⟩,.int .i64 0,.int .i64 0,.int .i64 e.day] 38
 rw[World.size_alloc] at h2
 exact⟨h.e.below hb,h.r.below hb,(BoxAt.new W #[.string old.remain,.int .i64 old.state,.string old.site,.int .i64 old.level,.int .i64 old.cont,.int .i64 old.since] 38).alloc _,h2,h.r.lt,below_step h.bel hb⟩
def ErP (w:World) (r:Lot × Int) (e:Ending) (w':World):Prop:=e=.returned (.tuple #[.agg #[.string r.1.remain,.int .i64 r.1.state,.string r.1.site,.int .i64 r.1.level,.int .i64 r.1.cont,.int .i64 r.1.since],.int .i64 r.2])∧Below w.heap.size w w'
theorem error_bad (B M:Nat) (S R:Option Addr) (c d:Nat) (y:Yd) (A:Option Addr) (cap:Nat) (bk:Bk) (e:Ev) (w:World) (hB:BkR w B M S R c d y A cap bk) (hn1:e.remain.size≤maxLen) (hn2:e.site.size≤maxLen) (hbad:Cal.eventE e≠0∨e.day<bk.day) :
  Calls Tryd.prog 36 #[.pointer (some ⟨B,0,none⟩),.agg #[.int .i64 e.day,.int .i64 e.kind,.string e.site,.int .i64 e.level,.string e.remain,.int .i64 e.cont,.bool e.order]] w (ErP w (Cal.bkErr y bk e)):=by
 have hI:=Lib.hid (ErI.start w e)
 have hBz:=Lib.hid (fun w' (h:Below w.heap.size w w')=>hB.below h)
 clear hB
 (obtain⟨e0,e1,e2,e3⟩:=hI.out.e.c4;have e4:=hI.out.e.c 4 _ rfl;have e5:=hI.out.e.c 5 _ rfl;have e6:=hI.out.e.c 6 _ rfl)
 by_cases h0:Cal.eventE e=0
 ·have hd:e.day<bk.day:=by rcases hbad with h | h;exact absurd h0 h;exact h
  have hf:Hid (Cal.bkErr y bk e=(Cal.lot0,9)):=by show _=_;unfold Cal.bkErr;rw[if_neg (by rw[h0];simp),if_pos hd]
  have hdq:=decide_eq_true hd
  have h0z:=Lib.hid h0
  clear hbad h0 hd
  go_enter Tryd.func36,Tryd.ntmps36
  go_upto_region 4 with (go_at_call 56;clear e0 e1 e2 e3 e4 e5 e6;refine (CheckEvent_any e _ hn1 hn2).mono ?_;rintro e9 wn ⟨rfl,hbn⟩;rw[h0z.out];replace hI:=Lib.hid (hI.out.below hbn);clear hbn;(obtain⟨e0,e1,e2,e3⟩:=hI.out.e.c4;have e4:=hI.out.e.c 4 _ rfl;have e5:=hI.out.e.c 5 _ rfl;have e6:=hI.out.e.c 6 _ rfl))
  clear e0 e1 e2 e3 e4 e5 e6
  refine wp_region_held_drew (S:=Sx w [(w.heap.size,0,.int .i64 e.day),(B,7,.int .i64 bk.day)]) (by kernel_rfl) (Sx.mk (by simp only[cs_iff_cons];exact⟨hI.out.e.c 0 _ rfl,(hBz.out _ hI.out.bel).box.c 7 _ rfl,cs_nil _⟩) (hI.out.bel.trans (Below.refl _ _).drew)) (fun hHeld=>?_)
  refine tkHx 0 17 ?_
  refine tkHx 1 18 ?_
  refine tkHx 2 19 ?_
  refine tkHx 3 20 ?_
  refine tkHx 4 21 ?_
  refine tkHx 5 22 ?_
  refine tkHx 6 23 ?_
  refine wpAnyH_done (by kernel_rfl) ?_ _
  have hI2:=Lib.hid (hI.out.below ((Below.refl _ _).drew))
  clear hHeld hI
  go_wp2_with (refine wpList_store_box rfl 38 (.tmp 4) (.tmp 24) rfl (w.heap.size+1) _ [.string ⟨#[]⟩,.int .i64 0,.string ⟨#[]⟩,.int .i64 0,.int .i64 0,.int .i64 0] (by rfl) (by rfl) hI2.out.r rfl ltSz (by kernel_rfl) ?_;intro w4 h4 hg4)
  refine bodyPost_ret (results_mid2 rfl _ _ (w.heap.size+1) [.string ⟨#[]⟩,.int .i64 0,.string ⟨#[]⟩,.int .i64 0,.int .i64 0,.int .i64 0] _ rfl h4.range Tryd.underlying38 rfl ltSz) rfl ?_
  rw[hf.out]
  exact⟨rfl,below_of_grownB hI2.out.bel hg4 (by omega)⟩
 have hf:Hid (Cal.bkErr y bk e=(Cal.lot0,Cal.eventE e)):=by show _=_;unfold Cal.bkErr;rw[if_pos h0]
 have h1:(Cal.eventE e != 0)=true:=by simp[h0]
 clear h0 hbad
 go_enter Tryd.func36,Tryd.ntmps36
 go_wp2_with (first
  |(go_at_call 56;clear e0 e1 e2 e3 e4 e5 e6;refine (CheckEvent_any e _ hn1 hn2).mono ?_;rintro e9 wn ⟨rfl,hbn⟩;have hI2:=Lib.hid (hI.out.below hbn);clear hbn)
  |(refine wpList_store_box rfl 38 (.tmp 4) (.tmp 15) rfl (w.heap.size+1) _ [.string ⟨#[]⟩,.int .i64 0,.string ⟨#[]⟩,.int .i64 0,.int .i64 0,.int .i64 0] (by rfl) (by rfl) hI2.out.r rfl ltSz (by kernel_rfl) ?_;intro w4 h4 hg4))
 refine bodyPost_ret (results_mid2 rfl _ _ (w.heap.size+1) [.string ⟨#[]⟩,.int .i64 0,.string ⟨#[]⟩,.int .i64 0,.int .i64 0,.int .i64 0] _ rfl h4.range Tryd.underlying38 rfl ltSz) rfl ?_
 rw[hf.out]
 exact⟨rfl,below_of_grownB hI2.out.bel hg4 (by omega)⟩
theorem lotD_some (t:Lot):lotD (some t)=t:=rfl
theorem Cal.lastIx_name:∀ {l:List Sty} {n:ByteArray} {i k:Nat},Cal.lastIx l n i=some k→∃ s,l[k-i]?=some s∧s.lot.remain=n
 | [],_,_,_,h=>by cases h
 | s :: r,n,i,k,h=>by
  unfold Cal.lastIx at h
  cases h2:Cal.lastIx r n (i+1) with
  | some j =>
   rw[h2] at h
   simp only[Option.some.injEq] at h
   subst h
   obtain⟨q,h3,h4⟩:=Cal.lastIx_name h2
   have:=(Cal.lastIx_lt h2).1
   refine⟨q,?_,h4⟩
   rw[show j-i=(j-(i+1))+1 by omega]
   exact h3
  | none =>
   rw[h2] at h
   simp only at h
   split at h
   ·rename_i he
    cases h
    exact⟨s,by simp,he⟩
   cases h
theorem lotOf_mem {l:List Sty} {n:ByteArray} {t:Lot} (h:Cal.lotOf l n=some t):∃ s∈l,s.lot=t∧s.lot.remain=n:=by
 unfold Cal.lotOf at h
 cases hl:Cal.lastIx l n 0 with
 | none=>rw[hl] at h;cases h
 | some k =>
  obtain⟨s,h1,h2⟩:=Cal.lastIx_name hl
  rw[hl] at h
  rw[Nat.sub_zero] at h1
  have h:(l[k]?).map (·.lot)=some t:=h
  rw[h1] at h
  simp only[Option.map_some,Option.some.injEq] at h
  exact⟨s,List.mem_of_getElem? h1,h,h2⟩
end Go.Proofs.YtcnfhnndppollaaDoor
