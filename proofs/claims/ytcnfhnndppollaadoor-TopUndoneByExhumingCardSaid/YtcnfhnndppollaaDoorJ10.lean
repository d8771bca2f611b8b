/- What the statements rest on: definitions and walks, part 10. -/
import Derived.Test.YtcnfhnndppollaaDoorJ09
set_option maxRecDepth 100000
set_option maxHeartbeats 16000000
set_option linter.unusedSimpArgs false
set_option linter.unusedVariables false
namespace Go.Proofs.YtcnfhnndppollaaDoor
open Go Go.RowKit
theorem DepthR_any (s:Site) (l:Int) (w:World) (hs:SiteSm s) (k0:-1≤l) (k1:l≤1000) (h:s.kind=0) :
  Calls Tryd.prog 97 #[.agg #[.string s.name,.int .i64 s.kind,.int .i64 s.soil,.int .i64 s.depth,.int .i64 s.step,.int .i64 s.room],.int .i64 l] w fun e w'=>e=.returned (.int .i64 (Cal.depthS s l))∧Below w.heap.size w w':=by
 obtain⟨d0,d1⟩:=hs.depth
 obtain⟨s0,s1⟩:=hs.step
 obtain⟨p0,p1⟩:=step_bd s0 s1 k0 k1
 have hf:Hid (Cal.depthS s l=s.depth-s.step*l):=by show _=_;unfold Cal.depthS;rw[if_pos h]
 clear h
 go_enter Tryd.func97,Tryd.ntmps97
 go_wp2
 go_ret
 exact⟨ret_int hf.out.symm,blw⟩
theorem TakesR_any (S R:Option Addr) (c d:Nat) (y:Yd) (s:Site) (l cont:Int) (w:World) (hs:SiteSm s) (k0:-1≤l) (k1:l≤1000) (n0:0≤cont) (n1:cont≤2) :
  Calls Tryd.prog 90 #[.agg #[.slice S y.sites.length c,.slice R y.rests.length d,.int .i64 y.c0,.int .i64 y.c1,.int .i64 y.c2],.agg #[.string s.name,.int .i64 s.kind,.int .i64 s.soil,.int .i64 s.depth,.int .i64 s.step,.int .i64 s.room],.int .i64 l,.int .i64 cont] w fun e w'=>e=.returned (.bool (Cal.takesB y s l cont))∧Below w.heap.size w w':=by
 have hb0:=below_step (below_alloc w (.cells #[.slice S y.sites.length c,.slice R y.rests.length d,.int .i64 y.c0,.int .i64 y.c1,.int .i64 y.c2] 26)) (below_alloc (w.alloc (.cells #[.slice S y.sites.length c,.slice R y.rests.length d,.int .i64 y.c0,.int .i64 y.c1,.int .i64 y.c2] 26)) (.cells #[.string s.name,.int .i64 s.kind,.int .i64 s.soil,.int .i64 s.depth,.int .i64 s.step,.int .i64 s.room] 53))
 have g0:=BoxAt.new (w.alloc (.cells #[.slice S y.sites.length c,.slice R y.rests.length d,.int .i64 y.c0,.int .i64 y.c1,.int .i64 y.c2] 26)) #[.string s.name,.int .i64 s.kind,.int .i64 s.soil,.int .i64 s.depth,.int .i64 s.step,.int .i64 s.room] 53
 have g1:=(BoxAt.new w #[.slice S y.sites.length c,.slice R y.rests.length d,.int .i64 y.c0,.int .i64 y.c1,.int .i64 y.c2] 26).alloc (.cells #[.string s.name,.int .i64 s.kind,.int .i64 s.soil,.int .i64 s.depth,.int .i64 s.step,.int .i64 s.room] 53)
 have hsz:(w.alloc (.cells #[.slice S y.sites.length c,.slice R y.rests.length d,.int .i64 y.c0,.int .i64 y.c1,.int .i64 y.c2] 26)).heap.size=w.heap.size+1:=by simp
 rw[hsz] at g0
 obtain⟨z0,z1⟩:=g0.c2
 clear hsz
 by_cases h0:s.kind=0
 ·have q0:(s.kind == 0)=true:=by simp[h0]
  have hdep:=Lib.hid (fun w1=>DepthR_any s l w1 hs k0 k1 h0)
  by_cases h2:cont=2
  ·have q2:(cont != 2)=false:=by simp[h2]
   have hf:Hid (Cal.takesB y s l cont=false):=by show _=_;unfold Cal.takesB;rw[if_pos h0];simp[h2]
   clear h0 h2
   go_enter Tryd.func90,Tryd.ntmps90
   go_upto_region 3 with fail
   refine wp_region_held_drew (S:=Sx w [(w.heap.size+1,0,.string s.name),(w.heap.size+1,1,.int .i64 s.kind),(w.heap.size+1,2,.int .i64 s.soil),(w.heap.size+1,3,.int .i64 s.depth),(w.heap.size+1,4,.int .i64 s.step),(w.heap.size+1,5,.int .i64 s.room)]) (by kernel_rfl) ⟨by simp[cs_iff_cons,cs_nil],blw⟩ (fun hHeld=>?_)
   refine tkHx 0 13 ?_
   refine tkHx 1 14 ?_
   refine tkHx 2 15 ?_
   refine tkFx 3 16 ?_
   refine tkFx 4 17 ?_
   refine tkFx 5 18 ?_
   refine tkFx 6 19 ?_
   refine tkFx 7 20 ?_
   refine tkFx 8 21 ?_
   refine tkFx 9 22 ?_
   refine tkFx 10 23 ?_
   refine tkHx 11 24 ?_
   refine tkHx 12 8 ?_
   refine wpAnyH_done (by kernel_rfl) ?_ _
   go_wp2
   go_ret
   exact⟨ret_bool hf.out.symm,hHeld.bel⟩
  have hcc:cont=0∨cont=1:=by omega
  rcases hcc with rfl | rfl
  ·have hf:Hid (Cal.takesB y s l 0=decide (y.c0≤Cal.depthS s l)):=by show _=_;unfold Cal.takesB;rw[if_pos h0];simp[Cal.cover]
   clear h0 h2
   go_enter Tryd.func90,Tryd.ntmps90
   go_upto_region 3 with fail
   refine wp_region_held_drew (S:=Sx w [(w.heap.size+1,0,.string s.name),(w.heap.size+1,1,.int .i64 s.kind),(w.heap.size+1,2,.int .i64 s.soil),(w.heap.size+1,3,.int .i64 s.depth),(w.heap.size+1,4,.int .i64 s.step),(w.heap.size+1,5,.int .i64 s.room),(w.heap.size,2,.int .i64 y.c0)]) (by kernel_rfl) ⟨by simp[cs_iff_cons,cs_nil],blw⟩ (fun hHeld=>?_)
   refine tkHx 0 13 ?_
   refine tkHx 1 14 ?_
   refine tkHx 2 15 ?_
   refine tkHx 3 16 ?_
   refine tkHx 4 17 ?_
   refine tkHx 6 19 ?_
   refine tkHx 7 20 ?_
   refine tkHx 8 21 ?_
   refine tkHx 9 22 ?_
   (refine ratHx 5 (fun K hK=>?_);go_simp)
   refine (hdep.out _).mono ?_
   rintro e wn ⟨rfl,hbn⟩
   go_simp
   (refine hK.out _ _ (hHeld.step hbn) (fun hHeld=>?_);clear hK K;(try simp only[apS,apN,siA,scZ,scS]))
   refine tkHx 10 23 ?_
   refine tkHx 11 24 ?_
   refine tkHx 12 8 ?_
   refine wpAnyH_done (by kernel_rfl) ?_ _
   go_wp2
   go_ret
   exact⟨ret_bool hf.out.symm,hHeld.bel⟩
  have hf:Hid (Cal.takesB y s l 1=decide (y.c1≤Cal.depthS s l)):=by show _=_;unfold Cal.takesB;rw[if_pos h0];simp[Cal.cover]
  clear h0 h2
  go_enter Tryd.func90,Tryd.ntmps90
  go_upto_region 3 with fail
  refine wp_region_held_drew (S:=Sx w [(w.heap.size+1,0,.string s.name),(w.heap.size+1,1,.int .i64 s.kind),(w.heap.size+1,2,.int .i64 s.soil),(w.heap.size+1,3,.int .i64 s.depth),(w.heap.size+1,4,.int .i64 s.step),(w.heap.size+1,5,.int .i64 s.room),(w.heap.size,3,.int .i64 y.c1)]) (by kernel_rfl) ⟨by simp[cs_iff_cons,cs_nil],blw⟩ (fun hHeld=>?_)
  refine tkHx 0 13 ?_
  refine tkHx 1 14 ?_
  refine tkHx 2 15 ?_
  refine tkHx 3 16 ?_
  refine tkHx 4 17 ?_
  refine tkHx 6 19 ?_
  refine tkHx 7 20 ?_
  refine tkHx 8 21 ?_
  refine tkHx 9 22 ?_
  (refine ratHx 5 (fun K hK=>?_);go_simp)
  refine (hdep.out _).mono ?_
  rintro e wn ⟨rfl,hbn⟩
  go_simp
  (refine hK.out _ _ (hHeld.step hbn) (fun hHeld=>?_);clear hK K;(try simp only[apS,apN,siA,scZ,scS]))
  refine tkHx 10 23 ?_
  refine tkHx 11 24 ?_
  refine tkHx 12 8 ?_
  refine wpAnyH_done (by kernel_rfl) ?_ _
  go_wp2
  go_ret
  exact⟨ret_bool hf.out.symm,hHeld.bel⟩
 have q0:(s.kind == 0)=false:=by simp[h0]
 by_cases h1:s.kind=1
 ·have q1:(s.kind == 1)=true:=by simp[h1]
  have hf:Hid (Cal.takesB y s l cont=(cont != 2)):=by show _=_;unfold Cal.takesB;rw[if_neg h0,if_pos h1];rw[Bool.eq_iff_iff];simp
  clear h0 h1
  go_enter Tryd.func90,Tryd.ntmps90
  go_wp2
  go_ret
  exact⟨ret_bool hf.out.symm,hb0⟩
 have q1:(s.kind == 1)=false:=by simp[h1]
 by_cases h2:s.kind=2
 ·have q2:(s.kind == 2)=true:=by simp[h2]
  have hf:Hid (Cal.takesB y s l cont=(cont == 1)):=by show _=_;unfold Cal.takesB;rw[if_neg h0,if_neg h1,if_pos h2];rw[Bool.eq_iff_iff];simp
  clear h0 h1 h2
  go_enter Tryd.func90,Tryd.ntmps90
  go_wp2
  go_ret
  exact⟨ret_bool hf.out.symm,hb0⟩
 have q2:(s.kind == 2)=false:=by simp[h2]
 have hf:Hid (Cal.takesB y s l cont=(cont == 2)):=by show _=_;unfold Cal.takesB;rw[if_neg h0,if_neg h1,if_neg h2];rw[Bool.eq_iff_iff];simp
 clear h0 h1 h2
 go_enter Tryd.func90,Tryd.ntmps90
 go_wp2
 go_ret
 exact⟨ret_bool hf.out.symm,hb0⟩
end Go.Proofs.YtcnfhnndppollaaDoor
namespace Go.Proofs.YtcnfhnndppollaaDoor
open Go Go.RowKit
def PlR (w:World) (y:Yd) (n:ByteArray) (e:Ending) (w':World):Prop:=∃ i:Int,e=.returned (.int .i64 i)∧(i=0→(Cal.siteOf y.sites n).isSome=true)∧Below w.heap.size w w'
theorem siteErr_room {s:Site} (h:Cal.siteErr s=0):s.room≤1000:=by
 unfold Cal.siteErr at h
 repeat' split at h
 all_goals first | (cases h;done) | skip
 all_goals omega
theorem PlaceErrR_any (S R:Option Addr) (c d:Nat) (y:Yd) (A:Option Addr) (ac:Nat) (l:List Lot) (n:ByteArray) (lv cont:Int) (w:World) (hY:YdIn w S R y) (hok:∀ s∈y.sites,Cal.siteErr s=0) (hL:RowsAt w A 6 (l.map Lot.cells)) (hl:l.length≤1000000) (l0:0≤lv) (l1:lv≤1000) (n0:0≤cont) (n1:cont≤2) :
  Calls Tryd.prog 71 #[.agg #[.slice S y.sites.length c,.slice R y.rests.length d,.int .i64 y.c0,.int .i64 y.c1,.int .i64 y.c2],.slice A l.length ac,.string n,.int .i64 lv,.int .i64 cont] w (PlR w y n):=by
 have hll:=hY.slen
 have hb00:=below_alloc w (.cells #[.slice S y.sites.length c,.slice R y.rests.length d,.int .i64 y.c0,.int .i64 y.c1,.int .i64 y.c2] 26)
 have hy:=Lib.hid (BoxAt.new w #[.slice S y.sites.length c,.slice R y.rests.length d,.int .i64 y.c0,.int .i64 y.c1,.int .i64 y.c2] 26)
 have hsr:=Lib.hid (SiteR_any S R c d y n _ (hY.below hb00))
 have hYz:=Lib.hid (fun w' (h:Below w.heap.size w w')=>hY.below h)
 have hLz:=Lib.hid (fun w' (h:Below w.heap.size w w')=>hL.below h)
 have hb0:=Lib.hid hb00
 have hokz:=Lib.hid hok
 clear hY hL hb00 hok
 (obtain⟨y0,y1,y2,y3⟩:=hy.out.c4;have y4:=hy.out.c 4 _ rfl)
 go_enter Tryd.func71,Tryd.ntmps71
 go_upto_region 2 with (go_at_call 72;clear y0 y1 y2 y3 y4;refine hsr.out.mono ?_;rintro e9 wn ⟨i,rfl,hi,hbn⟩;replace hy:=Lib.hid (hy.out.below hbn);replace hb0:=Lib.hid (below_step hb0.out hbn);clear hbn;(obtain⟨y0,y1,y2,y3⟩:=hy.out.c4;have y4:=hy.out.c 4 _ rfl))
 rcases hi with ⟨rfl,hno⟩ | ⟨k,s,rfl,hk,hso,hnm⟩
 ·clear hsr
  go_wp2_with fail
  go_ret
  exact⟨6,rfl,(fun h=>by cases h),hb0.out⟩
 have hkl:=(List.getElem?_eq_some_iff.1 hk).1
 have hkk:(k:Int)<(y.sites.length:Int):=by omega
 have hse:=hokz.out s (List.mem_of_getElem? hk)
 have hsm:=Lib.hid (SiteSm.of (.inl hse))
 have hrm:=siteErr_room hse
 have hz:=Lib.hid (show (Cal.siteOf y.sites n).isSome=true by rw[hso];rfl)
 have hT:=Lib.hid (fun w1=>TakesR_any S R c d y s lv cont w1 hsm.out (by omega) l1 n0 n1)
 have hO:=Lib.hid (fun w1 (h:Below w.heap.size w w1)=>OccupiedR_any A ac l n lv w1 (hLz.out w1 h) hl)
 have hC:=Lib.hid (fun w1 (h:Below w.heap.size w w1)=>CoveredR_any A ac l s lv w1 (hLz.out w1 h) hl l0 l1 hrm)
 obtain⟨b,o,hS2,hbl,hc⟩:=site_at (hYz.out _ hb0.out).sites hk
 subst hS2
 have c0:=hc 0 _ rfl
 have c1:=hc 1 _ rfl
 have c2:=hc 2 _ rfl
 have c3:=hc 3 _ rfl
 have c4:=hc 4 _ rfl
 have c5:=hc 5 _ rfl
 rw[Nat.add_zero] at c0
 clear hc hk hso hnm hse hsr
 go_upto_region 5 with fail
 have hx:=Lib.hid (BoxAt.new wn #[.string s.name,.int .i64 s.kind,.int .i64 s.soil,.int .i64 s.depth,.int .i64 s.step,.int .i64 s.room] 53)
 replace hy:=Lib.hid (hy.out.alloc (.cells #[.string s.name,.int .i64 s.kind,.int .i64 s.soil,.int .i64 s.depth,.int .i64 s.step,.int .i64 s.room] 53))
 replace hb0:=Lib.hid (below_step hb0.out (below_alloc wn (.cells #[.string s.name,.int .i64 s.kind,.int .i64 s.soil,.int .i64 s.depth,.int .i64 s.step,.int .i64 s.room] 53)))
 clear c0 c1 c2 c3 c4 c5
 clear y0 y1 y2 y3 y4
 (obtain⟨y0,y1,y2,y3⟩:=hy.out.c4;have y4:=hy.out.c 4 _ rfl)
 (obtain⟨x0,x1,x2,x3⟩:=hx.out.c4;have x4:=hx.out.c 4 _ rfl;have x5:=hx.out.c 5 _ rfl)
 by_cases hrl:s.room≤lv
 ·go_wp2_with fail
  go_ret
  exact⟨2,rfl,(fun h=>by cases h),hb0.out⟩
 obtain⟨tb,htb⟩:∃ tb,tb=Cal.takesB y s lv cont:=⟨_,rfl⟩
 simp only[←htb] at hT
 clear htb
 cases tb
 ·go_wp2_with (go_at_call 90;clear y0 y1 y2 y3 y4;clear x0 x1 x2 x3 x4 x5;refine (hT.out _).mono ?_;rintro e9 wk ⟨rfl,hbk⟩;replace hb0:=Lib.hid (below_step hb0.out hbk);clear hbk)
  go_ret
  exact⟨15,rfl,(fun h=>by cases h),hb0.out⟩
 go_upto_region 9 with (go_at_call 90;clear y0 y1 y2 y3 y4;clear x0 x1 x2 x3 x4 x5;refine (hT.out _).mono ?_;rintro e9 wk ⟨rfl,hbk⟩;replace hb0:=Lib.hid (below_step hb0.out hbk);replace hx:=Lib.hid (hx.out.below hbk);clear hbk;(obtain⟨x0,x1,x2,x3⟩:=hx.out.c4;have x4:=hx.out.c 4 _ rfl;have x5:=hx.out.c 5 _ rfl))
 go_wp2_with (go_at_call 73;refine (hO.out _ hb0.out).mono ?_;rintro e9 wj ⟨b1,rfl,rfl⟩;cases b1)
 ·go_wp2_with (go_at_call 74;clear x0 x1 x2 x3 x4 x5;refine (hC.out _ hb0.out).mono ?_;rintro e9 wi ⟨b2,rfl,hbi⟩;replace hb0:=Lib.hid (below_step hb0.out hbi);clear hbi;cases b2)
  ·go_wp2_with fail
   go_ret
   exact⟨0,rfl,(fun _=>hz.out),hb0.out⟩
  go_wp2_with fail
  go_ret
  exact⟨18,rfl,(fun h=>by cases h),hb0.out⟩
 go_wp2_with fail
 go_ret
 exact⟨16,rfl,(fun h=>by cases h),hb0.out⟩
end Go.Proofs.YtcnfhnndppollaaDoor
namespace Go.Proofs.YtcnfhnndppollaaDoor
open Go Go.RowKit
theorem CheckSiteR_any (s:Site) (w:World) (hnm:s.name.size≤maxLen) :
  Calls Tryd.prog 30 #[.agg #[.string s.name,.int .i64 s.kind,.int .i64 s.soil,.int .i64 s.depth,.int .i64 s.step,.int .i64 s.room]] w fun e w'=>e=.returned (.int .i64 (Cal.siteErr s))∧Below w.heap.size w w':=by
 have hb0:=Lib.hid (below_alloc w (.cells #[.string s.name,.int .i64 s.kind,.int .i64 s.soil,.int .i64 s.depth,.int .i64 s.step,.int .i64 s.room] 53))
 cases h1:nameB s.name
 ·have hf:Hid (Cal.siteErr s=4):=by show _=_;unfold Cal.siteErr;rw[if_pos h1]
  go_enter Tryd.func30,Tryd.ntmps30
  go_wp2_with (first
   |(go_at_call 48;refine (IsName_any s.name _ hnm).mono ?_;rintro e w' ⟨rfl,rfl⟩)
   |((first | (go_at_call 37) | (go_at_call 23) | (go_at_call 22) | (go_at_call 31) | (go_at_call 69) | (go_at_call 32));first | refine rin ?_ | refine rout ?_ | refine rany ?_))
  go_ret
  exact⟨ret_int hf.out.symm,hb0.out⟩
 have h1n:¬nameB s.name=false:=by rw[h1];simp
 by_cases hk:0≤s.kind∧s.kind≤3
 ·by_cases r1:0≤s.soil∧s.soil≤9
  ·by_cases r2:0≤s.depth∧s.depth≤1000
   ·by_cases r3:0≤s.step∧s.step≤300
    ·by_cases r4:1≤s.room∧s.room≤12
     ·have hr:¬(¬(0≤s.soil∧s.soil≤9)∨¬(0≤s.depth∧s.depth≤1000)∨¬(0≤s.step∧s.step≤300)∨¬(1≤s.room∧s.room≤12)):=by omega
      have hcm:=Int.mul_comm s.step (s.room-1)
      obtain⟨p0,p1⟩:=step_bd (s:=s.step) (l:=s.room-1) (by omega) (by omega) (by omega) (by omega)
      rw[hcm] at p0 p1
      by_cases k0:s.kind=0
      ·have q0:(s.kind == 0)=true:=by simp[k0]
       have q1:(s.kind != 0)=false:=by simp[k0]
       have q3:(s.kind == 3)=false:=by simp[k0]
       by_cases hd:s.depth-(s.room-1)*s.step<0
       ·have hf:Hid (Cal.siteErr s=3):=by show _=_;unfold Cal.siteErr;rw[if_neg h1n,if_neg (by omega),if_neg hr,if_pos ⟨k0,by rw[hcm];exact hd⟩]
        have qd:=decide_eq_true hd
        clear hcm k0 hr
        go_enter Tryd.func30,Tryd.ntmps30
        go_wp2_with (first
         |(go_at_call 48;refine (IsName_any s.name _ hnm).mono ?_;rintro e w' ⟨rfl,rfl⟩)
         |((first | (go_at_call 37) | (go_at_call 23) | (go_at_call 22) | (go_at_call 31) | (go_at_call 69) | (go_at_call 32));first | refine rin ?_ | refine rout ?_ | refine rany ?_))
        go_ret
        exact⟨ret_int hf.out.symm,hb0.out⟩
       have hf:Hid (Cal.siteErr s=0):=by show _=_;unfold Cal.siteErr;rw[if_neg h1n,if_neg (by omega),if_neg hr,if_neg (fun h=>hd (by rw[←hcm];exact h.2)),if_neg (fun h=>h.1 k0),if_neg (by omega)]
       have qd:=decide_eq_false hd
       clear hcm k0 hr
       go_enter Tryd.func30,Tryd.ntmps30
       go_wp2_with (first
        |(go_at_call 48;refine (IsName_any s.name _ hnm).mono ?_;rintro e w' ⟨rfl,rfl⟩)
        |((first | (go_at_call 37) | (go_at_call 23) | (go_at_call 22) | (go_at_call 31) | (go_at_call 69) | (go_at_call 32));first | refine rin ?_ | refine rout ?_ | refine rany ?_))
       go_ret
       exact⟨ret_int hf.out.symm,hb0.out⟩
      have q0:(s.kind == 0)=false:=by simp[k0]
      have q1:(s.kind != 0)=true:=by simp[k0]
      by_cases d0:s.depth=0
      ·have e0:(s.depth != 0)=false:=by simp[d0]
       by_cases d1:s.step=0
       ·have e1:(s.step != 0)=false:=by simp[d1]
        by_cases k3:s.kind=3
        ·have q3:(s.kind == 3)=true:=by simp[k3]
         by_cases m1:s.room=1
         ·have e3:(s.room != 1)=false:=by simp[m1]
          have hf:Hid (Cal.siteErr s=0):=by show _=_;unfold Cal.siteErr;rw[if_neg h1n,if_neg (by omega),if_neg hr,if_neg (fun h=>k0 h.1),if_neg (by omega),if_neg (by omega)]
          clear hr k0 d0 d1 k3 m1 hcm p0 p1
          go_enter Tryd.func30,Tryd.ntmps30
          go_wp2_with (first
           |(go_at_call 48;refine (IsName_any s.name _ hnm).mono ?_;rintro e w' ⟨rfl,rfl⟩)
           |((first | (go_at_call 37) | (go_at_call 23) | (go_at_call 22) | (go_at_call 31) | (go_at_call 69) | (go_at_call 32));first | refine rin ?_ | refine rout ?_ | refine rany ?_))
          go_ret
          exact⟨ret_int hf.out.symm,hb0.out⟩
         have e3:(s.room != 1)=true:=by simp[m1]
         have hf:Hid (Cal.siteErr s=3):=by show _=_;unfold Cal.siteErr;rw[if_neg h1n,if_neg (by omega),if_neg hr,if_neg (fun h=>k0 h.1),if_neg (by omega),if_pos (by omega)]
         clear hr k0 d0 d1 k3 m1 hcm p0 p1
         go_enter Tryd.func30,Tryd.ntmps30
         go_wp2_with (first
          |(go_at_call 48;refine (IsName_any s.name _ hnm).mono ?_;rintro e w' ⟨rfl,rfl⟩)
          |((first | (go_at_call 37) | (go_at_call 23) | (go_at_call 22) | (go_at_call 31) | (go_at_call 69) | (go_at_call 32));first | refine rin ?_ | refine rout ?_ | refine rany ?_))
         go_ret
         exact⟨ret_int hf.out.symm,hb0.out⟩
        have q3:(s.kind == 3)=false:=by simp[k3]
        have hf:Hid (Cal.siteErr s=0):=by show _=_;unfold Cal.siteErr;rw[if_neg h1n,if_neg (by omega),if_neg hr,if_neg (fun h=>k0 h.1),if_neg (by omega),if_neg (by omega)]
        clear hr k0 d0 d1 k3 hcm p0 p1
        go_enter Tryd.func30,Tryd.ntmps30
        go_wp2_with (first
         |(go_at_call 48;refine (IsName_any s.name _ hnm).mono ?_;rintro e w' ⟨rfl,rfl⟩)
         |((first | (go_at_call 37) | (go_at_call 23) | (go_at_call 22) | (go_at_call 31) | (go_at_call 69) | (go_at_call 32));first | refine rin ?_ | refine rout ?_ | refine rany ?_))
        go_ret
        exact⟨ret_int hf.out.symm,hb0.out⟩
       have e1:(s.step != 0)=true:=by simp[d1]
       have hf:Hid (Cal.siteErr s=3):=by show _=_;unfold Cal.siteErr;rw[if_neg h1n,if_neg (by omega),if_neg hr,if_neg (fun h=>k0 h.1),if_pos (by omega)]
       clear hr k0 d0 d1 hcm p0 p1
       go_enter Tryd.func30,Tryd.ntmps30
       go_wp2_with (first
        |(go_at_call 48;refine (IsName_any s.name _ hnm).mono ?_;rintro e w' ⟨rfl,rfl⟩)
        |((first | (go_at_call 37) | (go_at_call 23) | (go_at_call 22) | (go_at_call 31) | (go_at_call 69) | (go_at_call 32));first | refine rin ?_ | refine rout ?_ | refine rany ?_))
       go_ret
       exact⟨ret_int hf.out.symm,hb0.out⟩
      have e0:(s.depth != 0)=true:=by simp[d0]
      have hf:Hid (Cal.siteErr s=3):=by show _=_;unfold Cal.siteErr;rw[if_neg h1n,if_neg (by omega),if_neg hr,if_neg (fun h=>k0 h.1),if_pos (by omega)]
      clear hr k0 d0 hcm p0 p1
      go_enter Tryd.func30,Tryd.ntmps30
      go_wp2_with (first
       |(go_at_call 48;refine (IsName_any s.name _ hnm).mono ?_;rintro e w' ⟨rfl,rfl⟩)
       |((first | (go_at_call 37) | (go_at_call 23) | (go_at_call 22) | (go_at_call 31) | (go_at_call 69) | (go_at_call 32));first | refine rin ?_ | refine rout ?_ | refine rany ?_))
      go_ret
      exact⟨ret_int hf.out.symm,hb0.out⟩
     have hf:Hid (Cal.siteErr s=2):=by show _=_;unfold Cal.siteErr;rw[if_neg h1n];rw[if_neg (by omega),if_pos (by omega)]
     go_enter Tryd.func30,Tryd.ntmps30
     go_wp2_with (first
      |(go_at_call 48;refine (IsName_any s.name _ hnm).mono ?_;rintro e w' ⟨rfl,rfl⟩)
      |((first | (go_at_call 37) | (go_at_call 23) | (go_at_call 22) | (go_at_call 31) | (go_at_call 69) | (go_at_call 32));first | refine rin ?_ | refine rout ?_ | refine rany ?_))
     go_ret
     exact⟨ret_int hf.out.symm,hb0.out⟩
    have hf:Hid (Cal.siteErr s=2):=by show _=_;unfold Cal.siteErr;rw[if_neg h1n];rw[if_neg (by omega),if_pos (by omega)]
    go_enter Tryd.func30,Tryd.ntmps30
    go_wp2_with (first
     |(go_at_call 48;refine (IsName_any s.name _ hnm).mono ?_;rintro e w' ⟨rfl,rfl⟩)
     |((first | (go_at_call 37) | (go_at_call 23) | (go_at_call 22) | (go_at_call 31) | (go_at_call 69) | (go_at_call 32));first | refine rin ?_ | refine rout ?_ | refine rany ?_))
    go_ret
    exact⟨ret_int hf.out.symm,hb0.out⟩
   have hf:Hid (Cal.siteErr s=2):=by show _=_;unfold Cal.siteErr;rw[if_neg h1n];rw[if_neg (by omega),if_pos (by omega)]
   go_enter Tryd.func30,Tryd.ntmps30
   go_wp2_with (first
    |(go_at_call 48;refine (IsName_any s.name _ hnm).mono ?_;rintro e w' ⟨rfl,rfl⟩)
    |((first | (go_at_call 37) | (go_at_call 23) | (go_at_call 22) | (go_at_call 31) | (go_at_call 69) | (go_at_call 32));first | refine rin ?_ | refine rout ?_ | refine rany ?_))
   go_ret
   exact⟨ret_int hf.out.symm,hb0.out⟩
  have hf:Hid (Cal.siteErr s=2):=by show _=_;unfold Cal.siteErr;rw[if_neg h1n];rw[if_neg (by omega),if_pos (by omega)]
  go_enter Tryd.func30,Tryd.ntmps30
  go_wp2_with (first
   |(go_at_call 48;refine (IsName_any s.name _ hnm).mono ?_;rintro e w' ⟨rfl,rfl⟩)
   |((first | (go_at_call 37) | (go_at_call 23) | (go_at_call 22) | (go_at_call 31) | (go_at_call 69) | (go_at_call 32));first | refine rin ?_ | refine rout ?_ | refine rany ?_))
  go_ret
  exact⟨ret_int hf.out.symm,hb0.out⟩
 have hf:Hid (Cal.siteErr s=15):=by show _=_;unfold Cal.siteErr;rw[if_neg h1n];rw[if_pos hk]
 go_enter Tryd.func30,Tryd.ntmps30
 go_wp2_with (first
  |(go_at_call 48;refine (IsName_any s.name _ hnm).mono ?_;rintro e w' ⟨rfl,rfl⟩)
  |((first | (go_at_call 37) | (go_at_call 23) | (go_at_call 22) | (go_at_call 31) | (go_at_call 69) | (go_at_call 32));first | refine rin ?_ | refine rout ?_ | refine rany ?_))
 go_ret
 exact⟨ret_int hf.out.symm,hb0.out⟩
end Go.Proofs.YtcnfhnndppollaaDoor
namespace Go.Proofs.YtcnfhnndppollaaDoor
open Go Go.RowKit
theorem RestR_any (S R:Option Addr) (c d:Nat) (y:Yd) (s:Site) (cont:Int) (w:World) (hR:RowsAt w R 3 (y.rests.map Rst.cells)) (hl:y.rests.length≤1000000) :
  Calls Tryd.prog 75 #[.agg #[.slice S y.sites.length c,.slice R y.rests.length d,.int .i64 y.c0,.int .i64 y.c1,.int .i64 y.c2],.agg #[.string s.name,.int .i64 s.kind,.int .i64 s.soil,.int .i64 s.depth,.int .i64 s.step,.int .i64 s.room],.int .i64 cont] w fun e w'=>e=.returned (.int .i64 (Cal.restOf y.rests s.soil cont))∧Below w.heap.size w w':=by
 have hb0:=below_step (below_alloc w (.cells #[.slice S y.sites.length c,.slice R y.rests.length d,.int .i64 y.c0,.int .i64 y.c1,.int .i64 y.c2] 26)) (below_alloc (w.alloc (.cells #[.slice S y.sites.length c,.slice R y.rests.length d,.int .i64 y.c0,.int .i64 y.c1,.int .i64 y.c2] 26)) (.cells #[.string s.name,.int .i64 s.kind,.int .i64 s.soil,.int .i64 s.depth,.int .i64 s.step,.int .i64 s.room] 53))
 have hR:=Lib.hid (hR.below hb0)
 have g0:=BoxAt.new (w.alloc (.cells #[.slice S y.sites.length c,.slice R y.rests.length d,.int .i64 y.c0,.int .i64 y.c1,.int .i64 y.c2] 26)) #[.string s.name,.int .i64 s.kind,.int .i64 s.soil,.int .i64 s.depth,.int .i64 s.step,.int .i64 s.room] 53
 have g1:=(BoxAt.new w #[.slice S y.sites.length c,.slice R y.rests.length d,.int .i64 y.c0,.int .i64 y.c1,.int .i64 y.c2] 26).alloc (.cells #[.string s.name,.int .i64 s.kind,.int .i64 s.soil,.int .i64 s.depth,.int .i64 s.step,.int .i64 s.room] 53)
 have hsz:(w.alloc (.cells #[.slice S y.sites.length c,.slice R y.rests.length d,.int .i64 y.c0,.int .i64 y.c1,.int .i64 y.c2] 26)).heap.size=w.heap.size+1:=by simp
 rw[hsz] at g0
 have z2:=g0.c 2 _ rfl;have y1:=g1.c 1 _ rfl
 clear hsz g0 g1
 go_enter Tryd.func75,Tryd.ntmps75
 go_wp2
 obtain⟨w1,hw1⟩:∃ w1,(w.alloc (.cells #[.slice S y.sites.length c,.slice R y.rests.length d,.int .i64 y.c0,.int .i64 y.c1,.int .i64 y.c2] 26)).alloc (.cells #[.string s.name,.int .i64 s.kind,.int .i64 s.soil,.int .i64 s.depth,.int .i64 s.step,.int .i64 s.room] 53)=w1:=⟨_,rfl⟩
 rw[hw1] at hb0 z2 y1 hR ⊢
 replace hb0:=Lib.hid hb0
 clear hw1
 go_loopw [7] (fun i wr=>∃ (k n:Nat),k≤y.rests.length∧i=.int .i64 k∧wr=w1.drewN n∧Hid (Cal.restOf y.rests s.soil cont=Cal.restOf (y.rests.drop k) s.soil cont)) (fun i _=>y.rests.length-(intOf i).toNat)
 case atStart=>exact⟨0,0,Nat.zero_le _,rfl,rfl,rfl⟩
 case round =>
  obtain⟨k,n,hk,rfl,rfl,hE⟩:=hrel
  by_cases hlt:k<y.rests.length
  ·have hkk:(k:Int)<(y.rests.length:Int):=by omega
   have hd:=Cal.restOf_drop hlt s.soil cont
   have hk':y.rests[k]?=some y.rests[k]:=List.getElem?_eq_getElem hlt
   obtain⟨b,o,hS2,hbl,r0,r1,r2⟩:=rest_at hR.out hk'
   subst hS2
   clear hk'
   generalize y.rests[k]=r at *
   by_cases e1:r.soil=s.soil
   ·have q1:(r.soil == s.soil)=true:=by simp[e1]
    by_cases e2:r.cont=cont
    ·have q2:(r.cont == cont)=true:=by simp[e2]
     rw[if_pos ⟨e1,e2⟩] at hd
     have hfin:Hid (Cal.restOf y.rests s.soil cont=r.days):=hE.out.trans hd
     clear hd hE e1 e2
     go_wp2_with fail
     go_quiet (fail)
     go_wp2_with fail
     go_ret
     exact⟨ret_int hfin.out.symm,below_step hb0.out (below_drewN (Below.refl _ _) _)⟩
    have q2:(r.cont == cont)=false:=by simp[e2]
    rw[if_neg (fun h=>e2 h.2)] at hd
    have hE2:Hid (Cal.restOf y.rests s.soil cont=Cal.restOf (y.rests.drop (k+1)) s.soil cont):=hE.out.trans hd
    clear hd hE e1 e2
    go_wp2_with fail
    go_quiet (fail)
    go_wp2_with fail
    go_roundw
    case rel=>exact⟨k+1,_,by omega,by go_num,rfl,hE2⟩
    case measure=>simp[intOf];omega
   have q1:(r.soil == s.soil)=false:=by simp[e1]
   rw[if_neg (fun h=>e1 h.1)] at hd
   have hE2:Hid (Cal.restOf y.rests s.soil cont=Cal.restOf (y.rests.drop (k+1)) s.soil cont):=hE.out.trans hd
   clear hd hE e1
   go_wp2_with fail
   go_quiet (fail)
   go_wp2_with fail
   go_roundw
   case rel=>exact⟨k+1,_,by omega,by go_num,rfl,hE2⟩
   case measure=>simp[intOf];omega
  obtain rfl:k=y.rests.length:=by omega
  have hfin:Hid (Cal.restOf y.rests s.soil cont=0):=by show _=_;rw[hE.out,List.drop_length];rfl
  clear hE
  go_wp2_with fail
  go_ret
  exact⟨ret_int hfin.out.symm,below_step hb0.out (below_drewN (Below.refl _ _) _)⟩
end Go.Proofs.YtcnfhnndppollaaDoor
namespace Go.Proofs.YtcnfhnndppollaaDoor
open Go Go.RowKit
structure YdR (y:Yd):Prop where
 sites:∀ (j:Nat) s,j<y.sites.length→y.sites[j]?=some s→Cal.siteErr s=0
 rests:∀ (j:Nat) r,j<y.rests.length→y.rests[j]?=some r→0≤r.days∧r.days≤100000
theorem YdR.site {y:Yd} (h:YdR y):∀ s∈y.sites,Cal.siteErr s=0:=fun s hs=>by
 obtain⟨j,hj⟩:=List.mem_iff_getElem?.1 hs
 exact h.sites j s (List.getElem?_eq_some_iff.1 hj).1 hj
theorem YdR.over {y:Yd} (h:YdR y) (a b:Int):0≤Cal.restOf y.rests a b∧Cal.restOf y.rests a b≤100000:=by
 unfold Cal.restOf
 split
 ·rename_i r hr
  have hm:=List.mem_of_find?_eq_some hr
  obtain⟨j,hj⟩:=List.mem_iff_getElem?.1 hm
  exact h.rests j r (List.getElem?_eq_some_iff.1 hj).1 hj
 omega
def CkY (w:World) (y:Yd) (e:Ending) (w':World):Prop:=∃ i:Int,e=.returned (.int .i64 i)∧(i=0→YdR y)∧Below w.heap.size w w'
theorem CheckYardR_any (S R:Option Addr) (c d:Nat) (y:Yd) (w:World) (hY:YdIn w S R y) :
  Calls Tryd.prog 15 #[.agg #[.slice S y.sites.length c,.slice R y.rests.length d,.int .i64 y.c0,.int .i64 y.c1,.int .i64 y.c2]] w (CkY w y):=by
 have hsl:=hY.slen
 have hrl:=hY.rlen
 have hYz:=Lib.hid (fun w' (h:Below w.heap.size w w')=>hY.below h)
 have hnmz:=Lib.hid hY.nm
 have hb0:=Lib.hid (below_alloc w (.cells #[.slice S y.sites.length c,.slice R y.rests.length d,.int .i64 y.c0,.int .i64 y.c1,.int .i64 y.c2] 26))
 have hy:=Lib.hid (BoxAt.new w #[.slice S y.sites.length c,.slice R y.rests.length d,.int .i64 y.c0,.int .i64 y.c1,.int .i64 y.c2] 26)
 have h00:Hid (∀ (j:Nat) s,j<0→y.sites[j]?=some s→Cal.siteErr s=0):=fun j s h=>absurd h (Nat.not_lt_zero _)
 clear hY
 (obtain⟨y0,y1,y2,y3⟩:=hy.out.c4;have y4:=hy.out.c 4 _ rfl)
 by_cases h60:60<(y.sites.length:Int)
 ·go_enter Tryd.func15,Tryd.ntmps15
  go_wp2_with fail
  go_ret
  exact⟨8,rfl,(fun h=>by cases h),hb0.out⟩
 go_enter Tryd.func15,Tryd.ntmps15
 go_wp2_with fail
 generalize w.alloc (.cells #[.slice S y.sites.length c,.slice R y.rests.length d,.int .i64 y.c0,.int .i64 y.c1,.int .i64 y.c2] 26)=w1 at *
 clear y0 y1 y2 y3 y4
 go_loopw [3,4,5] (fun i _ _ wr=>∃ k:Nat,k≤y.sites.length∧i=.int .i64 k∧Hid (BoxAt wr w.heap.size [.slice S y.sites.length c,.slice R y.rests.length d,.int .i64 y.c0,.int .i64 y.c1,.int .i64 y.c2])∧Hid (Below w.heap.size w wr)∧Hid (∀ (j:Nat) s,j<k→y.sites[j]?=some s→Cal.siteErr s=0)) (fun i _ _ _=>y.sites.length-(intOf i).toNat)
 case atStart=>exact⟨0,Nat.zero_le _,rfl,hy,hb0,h00⟩
 case round =>
  clear hy hb0 h00
  obtain⟨k,hk,rfl,hy,hb0,hE⟩:=hrel
  (obtain⟨y0,y1,y2,y3⟩:=hy.out.c4;have y4:=hy.out.c 4 _ rfl)
  by_cases hlt:k<y.sites.length
  ·have hkk:(k:Int)<(y.sites.length:Int):=by omega
   have hk':y.sites[k]?=some y.sites[k]:=List.getElem?_eq_getElem hlt
   have hkz:=Lib.hid hk'
   have hnm:=hnmz.out _ (List.getElem_mem hlt)
   have hget:=Lib.hid (fun j (hj:j<k)=>List.getElem?_eq_getElem (l:=y.sites) (Nat.lt_trans hj hlt))
   generalize y.sites[k]=s at *
   have hcs:=Lib.hid (fun w1=>CheckSiteR_any s w1 hnm)
   obtain⟨b,o,hS2,hbl,hc⟩:=site_at (hYz.out _ hb0.out).sites hk'
   have c0:=hc 0 _ rfl
   have c1:=hc 1 _ rfl
   have c2:=hc 2 _ rfl
   have c3:=hc 3 _ rfl
   have c4:=hc 4 _ rfl
   have c5:=hc 5 _ rfl
   rw[Nat.add_zero] at c0
   clear hc hk' hnm
   subst hS2
   by_cases hse:Cal.siteErr s=0
   ·have hsez:=Lib.hid hse
    rw[hse] at hcs
    clear hse
    go_wp2_with (go_at_call 30;clear y0 y1 y2 y3 y4;clear c0 c1 c2 c3 c4 c5 hbl;refine (hcs.out _).mono ?_;rintro e9 wn ⟨rfl,hbn⟩;replace hy:=Lib.hid (hy.out.below hbn);replace hb0:=Lib.hid (below_step hb0.out hbn);clear hbn hcs;(obtain⟨y0,y1,y2,y3⟩:=hy.out.c4;have y4:=hy.out.c 4 _ rfl))
    obtain⟨b',o',hS2,hbl,hc⟩:=site_at (hYz.out _ hb0.out).sites hkz.out
    cases hS2
    have c0:=hc 0 _ rfl
    rw[Nat.add_zero] at c0
    clear hc
    go_loopw [5] (fun i wr=>∃ (j n:Nat),j≤k∧i=.int .i64 j∧wr=wn.drewN n) (fun i _=>k-(intOf i).toNat)
    case atStart=>exact⟨0,0,Nat.zero_le _,rfl,rfl⟩
    case round =>
     obtain⟨j,n,hj,rfl,rfl⟩:=hrel
     by_cases hlj:j<k
     ·have hjk:(j:Int)<(k:Int):=by omega
      have hjl:(j:Int)<(y.sites.length:Int):=by omega
      have hj':=hget.out j hlj
      generalize y.sites[j]=q at *
      obtain⟨b',o',hS2,hbl2,hc⟩:=site_at (hYz.out _ hb0.out).sites hj'
      cases hS2
      have d0:=hc 0 _ rfl
      rw[Nat.add_zero] at d0
      clear hc hj'
      by_cases he:q.name=s.name
      ·have hq:=name_yes he
       clear he
       go_wp2_with fail
       go_quiet (fail)
       go_wp2_with fail
       go_ret
       exact⟨5,rfl,(fun h=>by cases h),below_step hb0.out (below_drewN (below_drewN (Below.refl _ _) _) _)⟩
      have hq:=name_no he
      clear he
      go_wp2_with fail
      go_quiet (fail)
      go_wp2_with fail
      go_roundw
      case rel=>exact⟨j+1,_,by omega,by go_num,rfl⟩
      case measure=>simp[intOf];omega
     obtain rfl:j=k:=by omega
     go_wp2_with fail
     go_roundw
     case rel =>
      refine⟨j+1,by omega,by go_num,hy.out.below (below_drewN (Below.refl _ _) _),below_step hb0.out (below_drewN (Below.refl _ _) _),fun i t hi ht=>?_⟩
      rcases Nat.lt_succ_iff_lt_or_eq.1 hi with h | h
      ·exact hE.out i t h ht
      subst h;rw[hkz.out] at ht;cases ht;exact hsez.out
     case measure=>simp[intOf];omega
   have hseq:(Cal.siteErr s != 0)=true:=by simp[hse]
   have hsez:=Lib.hid hse
   clear hse
   go_wp2_with (go_at_call 30;clear y0 y1 y2 y3 y4;clear c0 c1 c2 c3 c4 c5 hbl;refine (hcs.out _).mono ?_;rintro e9 wn ⟨rfl,hbn⟩;replace hb0:=Lib.hid (below_step hb0.out hbn);clear hbn hcs)
   go_ret
   exact⟨_,rfl,(fun h=>absurd h hsez.out),hb0.out⟩
  obtain rfl:k=y.sites.length:=by omega
  have hE1:=hE
  clear hE hlt hk
  by_cases h40:40<(y.rests.length:Int)
  ·go_wp2_with fail
   go_ret
   exact⟨8,rfl,(fun h=>by cases h),hb0.out⟩
  go_wp2_with fail
  clear y0 y1 y2 y3 y4
  have h00:Hid (∀ (j:Nat) r,j<0→y.rests[j]?=some r→0≤r.days∧r.days≤100000):=fun j s h=>absurd h (Nat.not_lt_zero _)
  go_loopw [6,7,8] (fun i _ _ wr=>∃ k:Nat,k≤y.rests.length∧i=.int .i64 k∧Hid (BoxAt wr w.heap.size [.slice S y.sites.length c,.slice R y.rests.length d,.int .i64 y.c0,.int .i64 y.c1,.int .i64 y.c2])∧Hid (Below w.heap.size w wr)∧Hid (∀ (j:Nat) r,j<k→y.rests[j]?=some r→0≤r.days∧r.days≤100000)) (fun i _ _ _=>y.rests.length-(intOf i).toNat)
  case atStart=>exact⟨0,Nat.zero_le _,rfl,hy,hb0,h00⟩
  case round =>
   clear hy hb0 h00
   obtain⟨k,hk,rfl,hy,hb0,hE⟩:=hrel
   (obtain⟨y0,y1,y2,y3⟩:=hy.out.c4;have y4:=hy.out.c 4 _ rfl)
   by_cases hlt:k<y.rests.length
   ·have hkk:(k:Int)<(y.rests.length:Int):=by omega
    have hk':y.rests[k]?=some y.rests[k]:=List.getElem?_eq_getElem hlt
    have hkz:=Lib.hid hk'
    have hget:=Lib.hid (fun j (hj:j<k)=>List.getElem?_eq_getElem (l:=y.rests) (Nat.lt_trans hj hlt))
    generalize y.rests[k]=r at *
    obtain⟨b,o,hS2,hbl,c0,c1,c2⟩:=rest_at (hYz.out _ hb0.out).rests hk'
    subst hS2
    clear hk'
    have hyl:=hy.out.lt
    go_upto_region 20 with fail
    have hr:=BoxAt.new wr #[.int .i64 r.soil,.int .i64 r.cont,.int .i64 r.days] 73
    clear c0 c1 c2 hbl
    clear y0 y1 y2 y3 y4
    replace hy:=Lib.hid (hy.out.alloc (.cells #[.int .i64 r.soil,.int .i64 r.cont,.int .i64 r.days] 73))
    replace hb0:=Lib.hid (below_step hb0.out (below_alloc wr (.cells #[.int .i64 r.soil,.int .i64 r.cont,.int .i64 r.days] 73)))
    generalize wr.alloc (.cells #[.int .i64 r.soil,.int .i64 r.cont,.int .i64 r.days] 73)=wn at *
    generalize wr.heap.size=B at *
    obtain⟨r0,r1,r2⟩:=hr.c3
    clear hr
    by_cases a1:0≤r.soil∧r.soil≤9
    ·by_cases a2:0≤r.cont∧r.cont≤2
     ·by_cases a3:0≤r.days∧r.days≤100000
      ·have a3z:=Lib.hid a3
       go_wp2_with ((first | (go_at_call 37) | (go_at_call 23) | (go_at_call 22) | (go_at_call 31) | (go_at_call 69) | (go_at_call 32));first | refine rin ?_ | refine rout ?_ | refine rany ?_)
       (obtain⟨y0,y1,y2,y3⟩:=hy.out.c4;have y4:=hy.out.c 4 _ rfl)
       go_loopw [8] (fun i wr=>∃ (j n:Nat),j≤k∧i=.int .i64 j∧wr=wn.drewN n) (fun i _=>k-(intOf i).toNat)
       case atStart=>exact⟨0,0,Nat.zero_le _,rfl,rfl⟩
       case round =>
        obtain⟨j,n,hj,rfl,rfl⟩:=hrel
        by_cases hlj:j<k
        ·have hjk:(j:Int)<(k:Int):=by omega
         have hjl:(j:Int)<(y.rests.length:Int):=by omega
         have hj':=hget.out j hlj
         generalize y.rests[j]=q at *
         obtain⟨b',o',hS2,hbl2,d0,d1,d2⟩:=rest_at (hYz.out _ hb0.out).rests hj'
         cases hS2
         clear hj'
         by_cases q1:q.soil=r.soil
         ·have q1b:(q.soil == r.soil)=true:=by simp[q1]
          clear q1
          by_cases q2:q.cont=r.cont
          ·have q2b:(q.cont == r.cont)=true:=by simp[q2]
           clear q2
           go_wp2_with fail
           go_quiet (fail)
           go_wp2_with fail
           go_ret
           exact⟨5,rfl,(fun h=>by cases h),below_step hb0.out (below_drewN (below_drewN (Below.refl _ _) _) _)⟩
          have q2b:(q.cont == r.cont)=false:=by simp[q2]
          clear q2
          go_wp2_with fail
          go_quiet (fail)
          go_wp2_with fail
          go_roundw
          case rel=>exact⟨j+1,_,by omega,by go_num,rfl⟩
          case measure=>simp[intOf];omega
         have q1b:(q.soil == r.soil)=false:=by simp[q1]
         clear q1
         go_wp2_with fail
         go_quiet (fail)
         go_wp2_with fail
         go_roundw
         case rel=>exact⟨j+1,_,by omega,by go_num,rfl⟩
         case measure=>simp[intOf];omega
        obtain rfl:j=k:=by omega
        go_wp2_with fail
        go_roundw
        case rel =>
         refine⟨j+1,by omega,by go_num,hy.out.below (below_drewN (Below.refl _ _) _),below_step hb0.out (below_drewN (Below.refl _ _) _),fun i t hi ht=>?_⟩
         rcases Nat.lt_succ_iff_lt_or_eq.1 hi with h | h
         ·exact hE.out i t h ht
         subst h;rw[hkz.out] at ht;cases ht;exact a3z.out
        case measure=>simp[intOf];omega
      go_wp2_with ((first | (go_at_call 37) | (go_at_call 23) | (go_at_call 22) | (go_at_call 31) | (go_at_call 69) | (go_at_call 32));first | refine rin ?_ | refine rout ?_ | refine rany ?_)
      go_ret
      exact⟨2,rfl,(fun h=>by cases h),hb0.out⟩
     go_wp2_with ((first | (go_at_call 37) | (go_at_call 23) | (go_at_call 22) | (go_at_call 31) | (go_at_call 69) | (go_at_call 32));first | refine rin ?_ | refine rout ?_ | refine rany ?_)
     go_ret
     exact⟨2,rfl,(fun h=>by cases h),hb0.out⟩
    go_wp2_with ((first | (go_at_call 37) | (go_at_call 23) | (go_at_call 22) | (go_at_call 31) | (go_at_call 69) | (go_at_call 32));first | refine rin ?_ | refine rout ?_ | refine rany ?_)
    go_ret
    exact⟨2,rfl,(fun h=>by cases h),hb0.out⟩
   obtain rfl:k=y.rests.length:=by omega
   have hfin:Hid (YdR y):=⟨hE1.out,hE.out⟩
   clear hE hE1
   go_wp2_with fail
   go_loopw [9] (fun i w2=>∃ k:Nat,k≤3∧i=.int .i64 k∧w2=wr) (fun i _=>3-(intOf i).toNat)
   case atStart=>exact⟨0,by omega,rfl,rfl⟩
   case round =>
    obtain⟨k,hk,rfl,rfl⟩:=hrel
    have hcs:k=0∨k=1∨k=2∨k=3:=by omega
    rcases hcs with rfl | rfl | rfl | rfl
    ·by_cases a1:0≤y.c0∧y.c0≤1000
     ·go_wp2_with ((first | (go_at_call 37) | (go_at_call 23) | (go_at_call 22) | (go_at_call 31) | (go_at_call 69) | (go_at_call 32));first | refine rin ?_ | refine rout ?_ | refine rany ?_)
      go_roundw
      case rel=>exact⟨1,by omega,by go_num,trivial⟩
      case measure=>simp[intOf]
     go_wp2_with ((first | (go_at_call 37) | (go_at_call 23) | (go_at_call 22) | (go_at_call 31) | (go_at_call 69) | (go_at_call 32));first | refine rin ?_ | refine rout ?_ | refine rany ?_)
     go_ret
     exact⟨2,rfl,(fun h=>by cases h),hb0.out⟩
    ·by_cases a1:0≤y.c1∧y.c1≤1000
     ·go_wp2_with ((first | (go_at_call 37) | (go_at_call 23) | (go_at_call 22) | (go_at_call 31) | (go_at_call 69) | (go_at_call 32));first | refine rin ?_ | refine rout ?_ | refine rany ?_)
      go_roundw
      case rel=>exact⟨2,by omega,by go_num,trivial⟩
      case measure=>simp[intOf]
     go_wp2_with ((first | (go_at_call 37) | (go_at_call 23) | (go_at_call 22) | (go_at_call 31) | (go_at_call 69) | (go_at_call 32));first | refine rin ?_ | refine rout ?_ | refine rany ?_)
     go_ret
     exact⟨2,rfl,(fun h=>by cases h),hb0.out⟩
    ·by_cases a1:0≤y.c2∧y.c2≤1000
     ·go_wp2_with ((first | (go_at_call 37) | (go_at_call 23) | (go_at_call 22) | (go_at_call 31) | (go_at_call 69) | (go_at_call 32));first | refine rin ?_ | refine rout ?_ | refine rany ?_)
      go_roundw
      case rel=>exact⟨3,by omega,by go_num,trivial⟩
      case measure=>simp[intOf]
     go_wp2_with ((first | (go_at_call 37) | (go_at_call 23) | (go_at_call 22) | (go_at_call 31) | (go_at_call 69) | (go_at_call 32));first | refine rin ?_ | refine rout ?_ | refine rany ?_)
     go_ret
     exact⟨2,rfl,(fun h=>by cases h),hb0.out⟩
    go_wp2_with fail
    go_ret
    exact⟨0,rfl,(fun _=>hfin.out),hb0.out⟩
end Go.Proofs.YtcnfhnndppollaaDoor
namespace Go.Proofs.YtcnfhnndppollaaDoor
open Go Go.RowKit
structure RfI (w:World) (S R:Option Addr) (c d:Nat) (y:Yd) (e:Ev) (W:World):Prop where
 y:BoxAt W w.heap.size [.slice S y.sites.length c,.slice R y.rests.length d,.int .i64 y.c0,.int .i64 y.c1,.int .i64 y.c2]
 e:BoxAt W (w.heap.size+1) [.int .i64 e.day,.int .i64 e.kind,.string e.site,.int .i64 e.level,.string e.remain,.int .i64 e.cont,.bool e.order]
 bel:Below w.heap.size w W
theorem RfI.below {w:World} {S R:Option Addr} {c d:Nat} {y:Yd} {e:Ev} {W W':World} (h:RfI w S R c d y e W) (hb:Below W.heap.size W W'):RfI w S R c d y e W':=⟨h.y.below hb,h.e.below hb,below_step h.bel hb⟩
theorem RfI.start (w:World) (S R:Option Addr) (c d:Nat) (y:Yd) (e:Ev):RfI w S R c d y e ((w.alloc (.cells #[.slice S y.sites.length c,.slice R y.rests.length d,.int .i64 y.c0,.int .i64 y.c1,.int .i64 y.c2] 26)).alloc (.cells #[.int .i64 e.day,.int .i64 e.kind,.string e.site,.int .i64 e.level,.string e.remain,.int .i64 e.cont,.bool e.order] 29)):=by
 obtain⟨h1,h2,h3⟩:=ErI.xbox w S R c d y e
 exact⟨h1,h2,h3⟩
theorem putErrR_any (S R:Option Addr) (c d:Nat) (y:Yd) (A:Option Addr) (ac:Nat) (l:List Lot) (e:Ev) (w:World) (hY:YdIn w S R y) (hok:YdR y) (hL:RowsAt w A 6 (l.map Lot.cells)) (hl:l.length≤1000000) (he:Cal.eventE e=0) (hk:e.kind=0∨e.kind=2) :
  Calls Tryd.prog 50 #[.agg #[.slice S y.sites.length c,.slice R y.rests.length d,.int .i64 y.c0,.int .i64 y.c1,.int .i64 y.c2],.slice A l.length ac,.agg #[.int .i64 e.day,.int .i64 e.kind,.string e.site,.int .i64 e.level,.string e.remain,.int .i64 e.cont,.bool e.order]] w (PlR w y e.site):=by
 have hI:=Lib.hid (RfI.start w S R c d y e)
 have hnum:=(event_all he).2.2.1 hk
 have hP:=Lib.hid (fun w1 (h:Below w.heap.size w w1)=>PlaceErrR_any S R c d y A ac l e.site e.level e.cont w1 (hY.below h) hok.site (hL.below h) hl hnum.1.1 (by omega) hnum.2.1 hnum.2.2)
 have hF:=Lib.hid (fun w1 (h:Below w.heap.size w w1)=>findR_any A ac l e.remain w1 (hL.below h) hl)
 have hLz:=Lib.hid (fun w' (h:Below w.heap.size w w')=>hL.below h)
 clear hY hok hL he hnum
 (obtain⟨y0,y1,y2,y3⟩:=hI.out.y.c4;have y4:=hI.out.y.c 4 _ rfl;obtain⟨e0,e1,e2,e3⟩:=hI.out.e.c4;have e4:=hI.out.e.c 4 _ rfl;have e5:=hI.out.e.c 5 _ rfl;have e6:=hI.out.e.c 6 _ rfl)
 go_enter Tryd.func50,Tryd.ntmps50
 go_upto_region 2 with (go_at_call 70;refine (hF.out _ hI.out.bel).mono ?_;rintro e9 wn ⟨i,rfl,hi,rfl⟩)
 rcases hi with ⟨rfl,hno⟩ | ⟨k,t,rfl,hfl⟩
 ·clear hno
  rcases hk with hk | hk
  ·have q0:(e.kind == 0)=true:=by simp[hk]
   have q2:(e.kind == 2)=false:=by simp[hk]
   clear hk
   go_wp2_with (go_at_call 71;clear y0 y1 y2 y3 y4 e0 e1 e2 e3 e4 e5 e6;refine (hP.out _ hI.out.bel).mono ?_;rintro e9 wm ⟨i,rfl,hi,hbm⟩;replace hI:=Lib.hid (hI.out.below hbm);replace hi:=Lib.hid hi;clear hbm)
   go_ret
   exact⟨i,rfl,hi.out,hI.out.bel⟩
  have q0:(e.kind == 0)=false:=by simp[hk]
  have q2:(e.kind == 2)=true:=by simp[hk]
  clear hk
  go_wp2_with fail
  go_ret
  exact⟨6,rfl,(fun h=>by cases h),hI.out.bel⟩
 have hkl:=(List.getElem?_eq_some_iff.1 hfl.1).1
 have hkk:(k:Int)<(l.length:Int):=by omega
 obtain⟨b,o,hS2,hbl,hc⟩:=lotRow_at (hLz.out _ hI.out.bel) hfl.1
 subst hS2
 have c1:=hc 1 _ rfl
 clear hc hfl hkl
 rcases hk with hk | hk
 ·have q0:(e.kind == 0)=true:=by simp[hk]
  have q2:(e.kind == 2)=false:=by simp[hk]
  clear hk
  go_wp2_with fail
  go_ret
  exact⟨5,rfl,(fun h=>by cases h),hI.out.bel⟩
 have q0:(e.kind == 0)=false:=by simp[hk]
 have q2:(e.kind == 2)=true:=by simp[hk]
 clear hk
 by_cases hs:t.state=0
 ·have q3:(t.state != 0)=false:=by simp[hs]
  clear hs
  go_wp2_with (go_at_call 71;clear y0 y1 y2 y3 y4 e0 e1 e2 e3 e4 e5 e6;refine (hP.out _ hI.out.bel).mono ?_;rintro e9 wm ⟨i,rfl,hi,hbm⟩;replace hI:=Lib.hid (hI.out.below hbm);replace hi:=Lib.hid hi;clear hbm)
  go_ret
  exact⟨i,rfl,hi.out,hI.out.bel⟩
 have q3:(t.state != 0)=true:=by simp[hs]
 clear hs
 go_wp2_with fail
 go_ret
 exact⟨28,rfl,(fun h=>by cases h),hI.out.bel⟩
end Go.Proofs.YtcnfhnndppollaaDoor
