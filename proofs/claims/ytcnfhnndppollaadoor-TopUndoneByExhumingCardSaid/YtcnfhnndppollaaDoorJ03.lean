/- What the statements rest on: definitions and walks, part 03. -/
import Derived.Test.YtcnfhnndppollaaDoorJ02
import Derived.Lib.ConvBytes
import Derived.DeepKeys4
set_option maxRecDepth 100000
set_option maxHeartbeats 16000000
set_option linter.unusedSimpArgs false
set_option linter.unusedVariables false
namespace Go.Proofs.YtcnfhnndppollaaDoor
open Go Go.RowKit
structure SiteSm (s:Site):Prop where
 depth:-1000000≤s.depth∧s.depth≤1000000
 step:0≤s.step∧s.step≤1000
theorem step_bd {s l:Int} (h0:0≤s) (h1:s≤1000) (k0:-1≤l) (k1:l≤1000):-1000≤s*l∧s*l≤1000000:=by
 have e1:0≤s*(l+1):=Int.mul_nonneg h0 (by omega)
 have e2:s*l≤1000*1000:=by
  rcases Int.lt_or_le l 0 with h | h
  ·have:s*l≤0:=Int.mul_nonpos_of_nonneg_of_nonpos h0 (by omega)
   omega
  exact Int.mul_le_mul h1 k1 h (by omega)
 rw[Int.mul_add] at e1
 omega
theorem depth_any (s:Site) (l:Int) (w:World) (hs:SiteSm s) (k0:-1≤l) (k1:l≤1000) :
  Calls Tryd.prog 77 #[.agg #[.string s.name,.int .i64 s.kind,.int .i64 s.soil,.int .i64 s.depth,.int .i64 s.step,.int .i64 s.room],.int .i64 l] w fun e w'=>e=.returned (.int .i64 (Cal.depthS s l))∧Below w.heap.size w w':=by
 obtain⟨d0,d1⟩:=hs.depth
 obtain⟨s0,s1⟩:=hs.step
 obtain⟨p0,p1⟩:=step_bd s0 s1 k0 k1
 by_cases h:s.kind=0
 ·have hf:Hid (Cal.depthS s l=s.depth-s.step*l):=by show _=_;unfold Cal.depthS;rw[if_pos h]
  have hq:(s.kind != 0)=false:=by simp[h]
  clear h
  go_enter Tryd.func77,Tryd.ntmps77
  go_wp2
  go_ret
  exact⟨ret_int hf.out.symm,blw⟩
 have hf:Hid (Cal.depthS s l=0):=by show _=_;unfold Cal.depthS;rw[if_neg h]
 have hq:(s.kind != 0)=true:=by simp[h]
 clear h
 go_enter Tryd.func77,Tryd.ntmps77
 go_wp2
 go_ret
 exact⟨ret_int hf.out.symm,blw⟩
theorem Cal.restOf_drop {l:List Rst} {k:Nat} (h:k<l.length) (a b:Int):Cal.restOf (l.drop k) a b=if l[k].soil=a∧l[k].cont=b then l[k].days else Cal.restOf (l.drop (k+1)) a b:=by
 rw[List.drop_eq_getElem_cons h]
 unfold Cal.restOf
 rw[List.find?_cons]
 by_cases e:l[k].soil=a∧l[k].cont=b
 ·rw[if_pos e];simp[e.1,e.2]
 rw[if_neg e]
 have:(decide (l[k].soil=a) && decide (l[k].cont=b))=false:=by
  cases h1:decide (l[k].soil=a) <;> cases h2:decide (l[k].cont=b) <;> simp_all
 rw[this]
theorem vrest_any (S R:Option Addr) (c d:Nat) (y:Yd) (s:Site) (cont:Int) (w:World) (hR:RowsAt w R 3 (y.rests.map Rst.cells)) (hl:y.rests.length≤1000000) :
  Calls Tryd.prog 91 #[.agg #[.slice S y.sites.length c,.slice R y.rests.length d,.int .i64 y.c0,.int .i64 y.c1,.int .i64 y.c2],.agg #[.string s.name,.int .i64 s.kind,.int .i64 s.soil,.int .i64 s.depth,.int .i64 s.step,.int .i64 s.room],.int .i64 cont] w fun e w'=>e=.returned (.int .i64 (Cal.restOf y.rests s.soil cont))∧Below w.heap.size w w':=by
 have hR:=Lib.hid (fun w' (h:Below w.heap.size w w')=>hR.below h)
 have hb0:=below_step (below_alloc w (.cells #[.slice S y.sites.length c,.slice R y.rests.length d,.int .i64 y.c0,.int .i64 y.c1,.int .i64 y.c2] 26)) (below_alloc (w.alloc (.cells #[.slice S y.sites.length c,.slice R y.rests.length d,.int .i64 y.c0,.int .i64 y.c1,.int .i64 y.c2] 26)) (.cells #[.string s.name,.int .i64 s.kind,.int .i64 s.soil,.int .i64 s.depth,.int .i64 s.step,.int .i64 s.room] 53))
 have g0:=BoxAt.new (w.alloc (.cells #[.slice S y.sites.length c,.slice R y.rests.length d,.int .i64 y.c0,.int .i64 y.c1,.int .i64 y.c2] 26)) #[.string s.name,.int .i64 s.kind,.int .i64 s.soil,.int .i64 s.depth,.int .i64 s.step,.int .i64 s.room] 53
 have hsz:(w.alloc (.cells #[.slice S y.sites.length c,.slice R y.rests.length d,.int .i64 y.c0,.int .i64 y.c1,.int .i64 y.c2] 26)).heap.size=w.heap.size+1:=by simp
 rw[hsz] at g0
 go_enter Tryd.func91,Tryd.ntmps91
 go_wp2
 clear hsz
 obtain⟨w1,hw1⟩:∃ w1,(w.alloc (.cells #[.slice S y.sites.length c,.slice R y.rests.length d,.int .i64 y.c0,.int .i64 y.c1,.int .i64 y.c2] 26)).alloc (.cells #[.string s.name,.int .i64 s.kind,.int .i64 s.soil,.int .i64 s.depth,.int .i64 s.step,.int .i64 s.room] 53)=w1:=⟨_,rfl⟩
 rw[hw1] at hb0 g0 ⊢
 replace hb0:=Lib.hid hb0
 replace g0:=Lib.hid g0
 clear hw1
 go_loopw [8,12] (fun _ i wr=>∃ k:Nat,k≤y.rests.length∧i=.int .i64 k∧Hid (BoxAt wr (w.heap.size+1) [.string s.name,.int .i64 s.kind,.int .i64 s.soil,.int .i64 s.depth,.int .i64 s.step,.int .i64 s.room])∧Hid (Below w.heap.size w wr)∧Hid (Cal.restOf y.rests s.soil cont=Cal.restOf (y.rests.drop k) s.soil cont)) (fun _ i _=>y.rests.length-(intOf i).toNat)
 case atStart=>exact⟨0,Nat.zero_le _,rfl,g0,hb0,rfl⟩
 case round =>
  obtain⟨k,hk,rfl,hg,hb,hE⟩:=hrel
  clear g0 hb0
  by_cases hlt:k<y.rests.length
  ·have hd:=Cal.restOf_drop hlt s.soil cont
   have hk':y.rests[k]?=some y.rests[k]:=List.getElem?_eq_getElem hlt
   obtain⟨b,o,rfl,hbl,r0,r1,r2⟩:=rest_at (hR.out _ hb.out) hk'
   clear hk'
   generalize y.rests[k]=r at *
   have c2:=hg.out.c 2 _ rfl
   have hlt2:=hg.out.lt
   have hg2:=Lib.hid (hg.out.alloc (.cells #[.int .i64 r.soil,.int .i64 r.cont,.int .i64 r.days] 73))
   have hb2:=Lib.hid (below_step hb.out (below_alloc wr (.cells #[.int .i64 r.soil,.int .i64 r.cont,.int .i64 r.days] 73)))
   clear hg hb
   by_cases e1:r.soil=s.soil
   ·have q1:(r.soil == s.soil)=true:=by simp[e1]
    by_cases e2:r.cont=cont
    ·have q2:(r.cont == cont)=true:=by simp[e2]
     rw[if_pos ⟨e1,e2⟩] at hd
     have hfin:Hid (Cal.restOf y.rests s.soil cont=r.days):=hE.out.trans hd
     clear hd hE e1 e2 hg2
     go_wp2
     go_ret
     exact⟨ret_int hfin.out.symm,hb2.out⟩
    have q2:(r.cont == cont)=false:=by simp[e2]
    rw[if_neg (fun h=>e2 h.2)] at hd
    have hE2:Hid (Cal.restOf y.rests s.soil cont=Cal.restOf (y.rests.drop (k+1)) s.soil cont):=hE.out.trans hd
    clear hd hE e1 e2
    go_wp2
    go_roundw
    case rel=>exact⟨k+1,by omega,by go_num,hg2,hb2,hE2⟩
    case measure=>simp[intOf];omega
   have q1:(r.soil == s.soil)=false:=by simp[e1]
   rw[if_neg (fun h=>e1 h.1)] at hd
   have hE2:Hid (Cal.restOf y.rests s.soil cont=Cal.restOf (y.rests.drop (k+1)) s.soil cont):=hE.out.trans hd
   clear hd hE e1
   go_wp2
   go_roundw
   case rel=>exact⟨k+1,by omega,by go_num,hg2,hb2,hE2⟩
   case measure=>simp[intOf];omega
  obtain rfl:k=y.rests.length:=by omega
  have hfin:Hid (Cal.restOf y.rests s.soil cont=0):=by show _=_;rw[hE.out,List.drop_length];rfl
  clear hE
  go_wp2
  go_ret
  exact⟨ret_int hfin.out.symm,hb.out⟩
theorem SiteSm.of {s:Site} (h:Cal.siteErr s=0∨(0≤s.depth∧s.depth≤1000∧0≤s.step∧s.step≤300)):SiteSm s:=by
 rcases h with h | ⟨h1,h2,h3,h4⟩
 ·unfold Cal.siteErr at h
  repeat' split at h
  all_goals first | (cases h;done) | skip
  all_goals exact⟨by omega,by omega⟩
 exact⟨by omega,by omega⟩
theorem takes_any (S R:Option Addr) (c d:Nat) (y:Yd) (s:Site) (l cont:Int) (w:World) (hs:SiteSm s) (k0:-1≤l) (k1:l≤1000) (n0:0≤cont) (n1:cont≤2) :
  Calls Tryd.prog 59 #[.agg #[.slice S y.sites.length c,.slice R y.rests.length d,.int .i64 y.c0,.int .i64 y.c1,.int .i64 y.c2],.agg #[.string s.name,.int .i64 s.kind,.int .i64 s.soil,.int .i64 s.depth,.int .i64 s.step,.int .i64 s.room],.int .i64 l,.int .i64 cont] w fun e w'=>e=.returned (.bool (Cal.takesB y s l cont))∧Below w.heap.size w w':=by
 have hb0:=below_step (below_alloc w (.cells #[.slice S y.sites.length c,.slice R y.rests.length d,.int .i64 y.c0,.int .i64 y.c1,.int .i64 y.c2] 26)) (below_alloc (w.alloc (.cells #[.slice S y.sites.length c,.slice R y.rests.length d,.int .i64 y.c0,.int .i64 y.c1,.int .i64 y.c2] 26)) (.cells #[.string s.name,.int .i64 s.kind,.int .i64 s.soil,.int .i64 s.depth,.int .i64 s.step,.int .i64 s.room] 53))
 have g0:=BoxAt.new (w.alloc (.cells #[.slice S y.sites.length c,.slice R y.rests.length d,.int .i64 y.c0,.int .i64 y.c1,.int .i64 y.c2] 26)) #[.string s.name,.int .i64 s.kind,.int .i64 s.soil,.int .i64 s.depth,.int .i64 s.step,.int .i64 s.room] 53
 have g1:=(BoxAt.new w #[.slice S y.sites.length c,.slice R y.rests.length d,.int .i64 y.c0,.int .i64 y.c1,.int .i64 y.c2] 26).alloc (.cells #[.string s.name,.int .i64 s.kind,.int .i64 s.soil,.int .i64 s.depth,.int .i64 s.step,.int .i64 s.room] 53)
 have hsz:(w.alloc (.cells #[.slice S y.sites.length c,.slice R y.rests.length d,.int .i64 y.c0,.int .i64 y.c1,.int .i64 y.c2] 26)).heap.size=w.heap.size+1:=by simp
 rw[hsz] at g0
 obtain⟨z0,z1⟩:=g0.c2
 clear hsz
 by_cases h0:s.kind=0
 ·have q0:(s.kind == 0)=true:=by simp[h0]
  by_cases h2:cont=2
  ·have q2:(cont != 2)=false:=by simp[h2]
   have hf:Hid (Cal.takesB y s l cont=false):=by show _=_;unfold Cal.takesB;rw[if_pos h0];simp[h2]
   clear h0 h2
   go_enter Tryd.func59,Tryd.ntmps59
   go_upto_region 3 with fail
   refine wp_region_held_drew (S:=Sx w [(w.heap.size+1,0,.string s.name),(w.heap.size+1,1,.int .i64 s.kind),(w.heap.size+1,2,.int .i64 s.soil),(w.heap.size+1,3,.int .i64 s.depth),(w.heap.size+1,4,.int .i64 s.step),(w.heap.size+1,5,.int .i64 s.room)]) (by kernel_rfl) ⟨by simp[cs_iff_cons,cs_nil],blw⟩ (fun hHeld=>?_)
   refine tkHx 0 13 ?_
   refine tkHx 1 14 ?_
   refine tkHx 2 15 ?_
   refine tkFx 3 16 ?_
   refine tkFx 4 17 ?_
   refine tkFx 5 18 ?_
   refine tkFx 6 19 ?_
   refine tkFx 7 20 ?_
   refine tkFx 8 21 ?_
   refine tkFx 9 22 ?_
   refine tkFx 10 23 ?_
   refine tkHx 11 24 ?_
   refine tkHx 12 8 ?_
   refine wpAnyH_done (by kernel_rfl) ?_ _
   go_wp2
   go_ret
   exact⟨ret_bool hf.out.symm,hHeld.bel⟩
  have hcc:cont=0∨cont=1:=by omega
  rcases hcc with rfl | rfl
  ·have hf:Hid (Cal.takesB y s l 0=decide (y.c0≤Cal.depthS s l)):=by show _=_;unfold Cal.takesB;rw[if_pos h0];simp[Cal.cover]
   clear h0 h2
   go_enter Tryd.func59,Tryd.ntmps59
   go_upto_region 3 with fail
   refine wp_region_held_drew (S:=Sx w [(w.heap.size+1,0,.string s.name),(w.heap.size+1,1,.int .i64 s.kind),(w.heap.size+1,2,.int .i64 s.soil),(w.heap.size+1,3,.int .i64 s.depth),(w.heap.size+1,4,.int .i64 s.step),(w.heap.size+1,5,.int .i64 s.room),(w.heap.size,2,.int .i64 y.c0)]) (by kernel_rfl) ⟨by simp[cs_iff_cons,cs_nil],blw⟩ (fun hHeld=>?_)
   refine tkHx 0 13 ?_
   refine tkHx 1 14 ?_
   refine tkHx 2 15 ?_
   refine tkHx 3 16 ?_
   refine tkHx 4 17 ?_
   refine tkHx 6 19 ?_
   refine tkHx 7 20 ?_
   refine tkHx 8 21 ?_
   refine tkHx 9 22 ?_
   (refine ratHx 5 (fun K hK=>?_);go_simp)
   refine (depth_any s l _ hs k0 k1).mono ?_
   rintro e wn ⟨rfl,hbn⟩
   go_simp
   (refine hK.out _ _ (hHeld.step hbn) (fun hHeld=>?_);clear hK K;(try simp only[apS,apN,siA,scZ,scS]))
   refine tkHx 10 23 ?_
   refine tkHx 11 24 ?_
   refine tkHx 12 8 ?_
   refine wpAnyH_done (by kernel_rfl) ?_ _
   go_wp2
   go_ret
   exact⟨ret_bool hf.out.symm,hHeld.bel⟩
  have hf:Hid (Cal.takesB y s l 1=decide (y.c1≤Cal.depthS s l)):=by show _=_;unfold Cal.takesB;rw[if_pos h0];simp[Cal.cover]
  clear h0 h2
  go_enter Tryd.func59,Tryd.ntmps59
  go_upto_region 3 with fail
  refine wp_region_held_drew (S:=Sx w [(w.heap.size+1,0,.string s.name),(w.heap.size+1,1,.int .i64 s.kind),(w.heap.size+1,2,.int .i64 s.soil),(w.heap.size+1,3,.int .i64 s.depth),(w.heap.size+1,4,.int .i64 s.step),(w.heap.size+1,5,.int .i64 s.room),(w.heap.size,3,.int .i64 y.c1)]) (by kernel_rfl) ⟨by simp[cs_iff_cons,cs_nil],blw⟩ (fun hHeld=>?_)
  refine tkHx 0 13 ?_
  refine tkHx 1 14 ?_
  refine tkHx 2 15 ?_
  refine tkHx 3 16 ?_
  refine tkHx 4 17 ?_
  refine tkHx 6 19 ?_
  refine tkHx 7 20 ?_
  refine tkHx 8 21 ?_
  refine tkHx 9 22 ?_
  (refine ratHx 5 (fun K hK=>?_);go_simp)
  refine (depth_any s l _ hs k0 k1).mono ?_
  rintro e wn ⟨rfl,hbn⟩
  go_simp
  (refine hK.out _ _ (hHeld.step hbn) (fun hHeld=>?_);clear hK K;(try simp only[apS,apN,siA,scZ,scS]))
  refine tkHx 10 23 ?_
  refine tkHx 11 24 ?_
  refine tkHx 12 8 ?_
  refine wpAnyH_done (by kernel_rfl) ?_ _
  go_wp2
  go_ret
  exact⟨ret_bool hf.out.symm,hHeld.bel⟩
 have q0:(s.kind == 0)=false:=by simp[h0]
 by_cases h1:s.kind=1
 ·have q1:(s.kind == 1)=true:=by simp[h1]
  have hf:Hid (Cal.takesB y s l cont=(cont != 2)):=by show _=_;unfold Cal.takesB;rw[if_neg h0,if_pos h1];rw[Bool.eq_iff_iff];simp
  clear h0 h1
  go_enter Tryd.func59,Tryd.ntmps59
  go_wp2
  go_ret
  exact⟨ret_bool hf.out.symm,hb0⟩
 have q1:(s.kind == 1)=false:=by simp[h1]
 by_cases h2:s.kind=2
 ·have q2:(s.kind == 2)=true:=by simp[h2]
  have hf:Hid (Cal.takesB y s l cont=(cont == 1)):=by show _=_;unfold Cal.takesB;rw[if_neg h0,if_neg h1,if_pos h2];rw[Bool.eq_iff_iff];simp
  clear h0 h1 h2
  go_enter Tryd.func59,Tryd.ntmps59
  go_wp2
  go_ret
  exact⟨ret_bool hf.out.symm,hb0⟩
 have q2:(s.kind == 2)=false:=by simp[h2]
 have hf:Hid (Cal.takesB y s l cont=(cont == 2)):=by show _=_;unfold Cal.takesB;rw[if_neg h0,if_neg h1,if_neg h2];rw[Bool.eq_iff_iff];simp
 clear h0 h1 h2
 go_enter Tryd.func59,Tryd.ntmps59
 go_wp2
 go_ret
 exact⟨ret_bool hf.out.symm,hb0⟩
end Go.Proofs.YtcnfhnndppollaaDoor
namespace Go.Proofs.YtcnfhnndppollaaDoor
open Go Go.RowKit
theorem bytes_exV (s:ByteArray) (w:World):∃ c W,(convert 9 143 (.string s)).run Tryd.prog w=.ok (.slice (some ⟨w.heap.size,0,none⟩) s.size c) W∧Below w.heap.size w W ∧
  ∀ k (h:k<s.size),W.cell? ⟨w.heap.size,k,none⟩=some (.int .u8 (s[k].toNat:Int)):=by
 refine⟨_,_,Lib.run_convert_string_bytes w 9 143 5 s Tryd.underlying9 Tryd.underlying143 Tryd.underlying5,⟨rfl,rfl,rfl,?_,fun k hk=>Lib.bytesWorld_at_old w _ s k hk⟩,fun k h=>?_⟩
 ·rw[Lib.bytesWorld_size];omega
 rw[Lib.bytesWorld_cell w _ s k h]
 congr 3
 rw[List.getD_eq_getElem?_getD]
 have:s.data.toList[k]?=some s[k]:=by
  rw[Array.getElem?_toList]
  exact Array.getElem?_eq_getElem h
 rw[this]
 rfl
def IsWV (W wr:World):Prop:=wr=W
theorem visName_any (s:ByteArray) (w:World) (hs:s.size≤maxLen) :
  Calls Tryd.prog 76 #[.string s] w fun e w'=>e=.returned (.bool (nameB s))∧Below w.heap.size w w':=by
 unfold maxLen at hs
 obtain⟨cp,W,hcv,hbel,hcell⟩:=bytes_exV s w
 have hbW:=Lib.hid hbel
 replace hcell:=Lib.hid hcell
 clear hbel
 have hok:=okTo_zero s
 go_enter Tryd.func76,Tryd.ntmps76
 go_wp2_with fail
 have hI:IsWV W W:=rfl
 go_loopw [9] (fun i wr=>∃ k:Nat,k≤s.size∧i=.int .i64 k∧okTo s k∧IsWV W wr) (fun i _=>s.size-(intOf i).toNat)
 case atStart=>exact⟨0,Nat.zero_le _,rfl,hok,hI⟩
 case round =>
  obtain⟨k,hk,rfl,hok2,hW⟩:=hrel
  obtain rfl:wr=W:=hW
  clear hok hI
  by_cases hlt:k<s.size
  ·have hb:=byteAt_eq hlt
   have c0:=hcell.out k hlt
   have hcl:(97≤(s[k].toNat:Int)∧(s[k].toNat:Int)≤122)∨(65≤(s[k].toNat:Int)∧(s[k].toNat:Int)≤90)∨(48≤(s[k].toNat:Int)∧(s[k].toNat:Int)≤57)∨(s[k].toNat:Int)=45∨(s[k].toNat:Int)<45∨(46≤(s[k].toNat:Int)∧(s[k].toNat:Int)≤47)∨(58≤(s[k].toNat:Int)∧(s[k].toNat:Int)≤64)∨(91≤(s[k].toNat:Int)∧(s[k].toNat:Int)≤96)∨123≤(s[k].toNat:Int):=by omega
   have x0:0≤(s[k].toNat:Int):=by omega
   have hyes:=Lib.hid (fun h:okAt s k=true=>okTo_succ hok2 h)
   have hno:=Lib.hid (fun h:okAt s k=false=>nameB_no hlt h)
   generalize (s[k].toNat:Int)=x at *
   by_cases hk0:k=0
   ·subst hk0
    rcases hcl with ⟨ca,cb⟩ | ⟨ca,cb⟩ | ⟨ca,cb⟩ | ca | ca | ⟨ca,cb⟩ | ⟨ca,cb⟩ | ⟨ca,cb⟩ | ca
    all_goals first
     |(have hok:Hid (okTo s (0+1)):=hyes.out (by unfold okAt;rw[hb];simp;omega)
       try (have q0:decide (x≤90)=false:=by first | (simp;omega) | (simp;done))
       try (have q1:decide (x≤122)=false:=by first | (simp;omega) | (simp;done))
       try (have q2:decide (x≤57)=false:=by first | (simp;omega) | (simp;done))
       try (have q3:(x != 45)=true:=by first | (simp;omega) | (simp;done))
       try (have q4:(x == 45)=false:=by first | (simp;omega) | (simp;done))
       try (have q5:decide (57<x)=true:=by first | (simp;omega) | (simp;done))
       try (have q6:decide (97≤x)=false:=by first | (simp;omega) | (simp;done))
       try (have q7:decide (65≤x)=false:=by first | (simp;omega) | (simp;done))
       try (have q8:decide (x≤90)=true:=by first | (simp;omega) | (simp;done))
       try (have q9:decide (x<48)=true:=by first | (simp;omega) | (simp;done))
       clear hyes hno hb
       go_wp2
       go_roundw
       case rel=>exact⟨1,by omega,rfl,hok.out,rfl⟩
       case measure=>simp[intOf];omega)
     |(have hfin:Hid (nameB s=false):=hno.out (by unfold okAt;rw[hb];simp;omega)
       try (have q0:decide (x≤90)=false:=by first | (simp;omega) | (simp;done))
       try (have q1:decide (x≤122)=false:=by first | (simp;omega) | (simp;done))
       try (have q2:decide (x≤57)=false:=by first | (simp;omega) | (simp;done))
       try (have q3:(x != 45)=true:=by first | (simp;omega) | (simp;done))
       try (have q4:(x == 45)=false:=by first | (simp;omega) | (simp;done))
       try (have q5:decide (57<x)=true:=by first | (simp;omega) | (simp;done))
       try (have q6:decide (97≤x)=false:=by first | (simp;omega) | (simp;done))
       try (have q7:decide (65≤x)=false:=by first | (simp;omega) | (simp;done))
       try (have q8:decide (x≤90)=true:=by first | (simp;omega) | (simp;done))
       try (have q9:decide (x<48)=true:=by first | (simp;omega) | (simp;done))
       clear hyes hno hb
       go_wp2
       go_ret
       exact⟨ret_bool hfin.out.symm,hbW.out⟩)
   have hk1:0<(k:Int):=by omega
   have hk2:((k:Int) == 0)=false:=by simp;omega
   rcases hcl with ⟨ca,cb⟩ | ⟨ca,cb⟩ | ⟨ca,cb⟩ | ca | ca | ⟨ca,cb⟩ | ⟨ca,cb⟩ | ⟨ca,cb⟩ | ca
   all_goals first
    |(have hok:Hid (okTo s (k+1)):=hyes.out (by unfold okAt;rw[hb];simp;omega)
      try (have q0:decide (x≤90)=false:=by first | (simp;omega) | (simp;done))
      try (have q1:decide (x≤122)=false:=by first | (simp;omega) | (simp;done))
      try (have q2:decide (x≤57)=false:=by first | (simp;omega) | (simp;done))
      try (have q3:(x != 45)=true:=by first | (simp;omega) | (simp;done))
      try (have q4:(x == 45)=false:=by first | (simp;omega) | (simp;done))
      try (have q5:decide (57<x)=true:=by first | (simp;omega) | (simp;done))
      try (have q6:decide (97≤x)=false:=by first | (simp;omega) | (simp;done))
      try (have q7:decide (65≤x)=false:=by first | (simp;omega) | (simp;done))
      try (have q8:decide (x≤90)=true:=by first | (simp;omega) | (simp;done))
      try (have q9:decide (x<48)=true:=by first | (simp;omega) | (simp;done))
      clear hyes hno hb hk0
      go_wp2
      go_roundw
      case rel=>exact⟨k+1,by omega,by go_num,hok.out,rfl⟩
      case measure=>simp[intOf];omega)
    |(have hfin:Hid (nameB s=false):=hno.out (by unfold okAt;rw[hb];simp;omega)
      try (have q0:decide (x≤90)=false:=by first | (simp;omega) | (simp;done))
      try (have q1:decide (x≤122)=false:=by first | (simp;omega) | (simp;done))
      try (have q2:decide (x≤57)=false:=by first | (simp;omega) | (simp;done))
      try (have q3:(x != 45)=true:=by first | (simp;omega) | (simp;done))
      try (have q4:(x == 45)=false:=by first | (simp;omega) | (simp;done))
      try (have q5:decide (57<x)=true:=by first | (simp;omega) | (simp;done))
      try (have q6:decide (97≤x)=false:=by first | (simp;omega) | (simp;done))
      try (have q7:decide (65≤x)=false:=by first | (simp;omega) | (simp;done))
      try (have q8:decide (x≤90)=true:=by first | (simp;omega) | (simp;done))
      try (have q9:decide (x<48)=true:=by first | (simp;omega) | (simp;done))
      clear hyes hno hb hk0
      go_wp2
      go_ret
      exact⟨ret_bool hfin.out.symm,hbW.out⟩)
  obtain rfl:k=s.size:=by omega
  by_cases h0:s.size=0
  ·have hfin:=Lib.hid (nameB_size (s:=s) (by omega))
   have he:=isEmpty_yes h0
   have he2:s.toList=[]:=by simpa using he
   go_wp2
   go_ret
   exact⟨ret_bool hfin.out.symm,hbW.out⟩
  have he:=isEmpty_no (s:=s) (by omega)
  have he2:¬s.toList=[]:=by intro h;rw[h] at he;cases he
  by_cases h12:s.size≤12
  ·have hfin:=Lib.hid (nameB_yes (by omega) h12 hok2)
   go_wp2
   go_ret
   exact⟨ret_bool (by rw[hfin.out];exact decide_eq_true (by omega)),hbW.out⟩
  have hfin:=Lib.hid (nameB_size (s:=s) (by omega))
  go_wp2
  go_ret
  exact⟨ret_bool (by rw[hfin.out];exact decide_eq_false (by omega)),hbW.out⟩
theorem CheckSite_any (s:Site) (w:World) (hnm:s.name.size≤maxLen) :
  Calls Tryd.prog 54 #[.agg #[.string s.name,.int .i64 s.kind,.int .i64 s.soil,.int .i64 s.depth,.int .i64 s.step,.int .i64 s.room]] w fun e w'=>e=.returned (.int .i64 (Cal.siteErr s))∧Below w.heap.size w w':=by
 have g0:=Lib.hid (BoxAt.new w #[.string s.name,.int .i64 s.kind,.int .i64 s.soil,.int .i64 s.depth,.int .i64 s.step,.int .i64 s.room] 53)
 have hb0:=Lib.hid (below_alloc w (.cells #[.string s.name,.int .i64 s.kind,.int .i64 s.soil,.int .i64 s.depth,.int .i64 s.step,.int .i64 s.room] 53))
 cases h1:nameB s.name
 ·have hf:Hid (Cal.siteErr s=4):=by show _=_;unfold Cal.siteErr;rw[if_pos h1]
  go_enter Tryd.func54,Tryd.ntmps54
  go_wp2_with (go_at_call 76;refine (visName_any s.name _ hnm).mono ?_;rintro e wn ⟨rfl,hbn⟩;rw[h1];have hb:=Lib.hid (below_step hb0.out hbn);clear hbn)
  go_ret
  exact⟨ret_int hf.out.symm,hb.out⟩
 have h1n:¬nameB s.name=false:=by rw[h1];simp
 by_cases hk:0≤s.kind∧s.kind≤3
 ·by_cases r1:0≤s.soil∧s.soil≤9
  ·by_cases r2:0≤s.depth∧s.depth≤1000
   ·by_cases r3:0≤s.step∧s.step≤300
    ·by_cases r4:1≤s.room∧s.room≤12
     ·have hsm:=Lib.hid (SiteSm.of (.inr ⟨r2.1,r2.2,r3.1,r3.2⟩))
      have hr:¬(¬(0≤s.soil∧s.soil≤9)∨¬(0≤s.depth∧s.depth≤1000)∨¬(0≤s.step∧s.step≤300)∨¬(1≤s.room∧s.room≤12)):=by omega
      by_cases k0:s.kind=0
      ·have hdp:Cal.depthS s (s.room-1)=s.depth-s.step*(s.room-1):=by unfold Cal.depthS;rw[if_pos k0]
       have q0:(s.kind == 0)=true:=by simp[k0]
       have q1:(s.kind != 0)=false:=by simp[k0]
       have q3:(s.kind == 3)=false:=by simp[k0]
       by_cases hd:Cal.depthS s (s.room-1)<0
       ·have hf:Hid (Cal.siteErr s=3):=by show _=_;unfold Cal.siteErr;rw[if_neg h1n,if_neg (by omega),if_neg hr,if_pos ⟨k0,by rw[←hdp];exact hd⟩]
        have qd:=decide_eq_true hd
        clear hdp k0 hr
        go_enter Tryd.func54,Tryd.ntmps54
        go_wp2_with (first
         |(go_at_call 76;refine (visName_any s.name _ hnm).mono ?_;rintro e wn ⟨rfl,hbn⟩;rw[h1];have g1:=Lib.hid (g0.out.below hbn);have hb:=Lib.hid (below_step hb0.out hbn);clear hbn;(obtain⟨c0,c1,c2,c3⟩:=g1.out.c4;have c4:=g1.out.c 4 _ rfl;have c5:=g1.out.c 5 _ rfl))
         |(go_at_call 77;clear c0 c1 c2 c3 c4 c5;refine (depth_any s _ _ hsm.out (by omega) (by omega)).mono ?_;rintro e wn ⟨rfl,hbn⟩;replace g1:=Lib.hid (g1.out.below hbn);replace hb:=Lib.hid (below_step hb.out hbn);clear hbn;(obtain⟨c0,c1,c2,c3⟩:=g1.out.c4;have c4:=g1.out.c 4 _ rfl;have c5:=g1.out.c 5 _ rfl))
         |((first | (go_at_call 37) | (go_at_call 23) | (go_at_call 22) | (go_at_call 31) | (go_at_call 69) | (go_at_call 32));first | refine rin ?_ | refine rout ?_ | refine rany ?_))
        go_ret
        exact⟨ret_int hf.out.symm,hb.out⟩
       have hf:Hid (Cal.siteErr s=0):=by show _=_;unfold Cal.siteErr;rw[if_neg h1n,if_neg (by omega),if_neg hr,if_neg (fun h=>hd (by rw[hdp];exact h.2)),if_neg (fun h=>h.1 k0),if_neg (by omega)]
       have qd:=decide_eq_false hd
       clear hdp k0 hr
       go_enter Tryd.func54,Tryd.ntmps54
       go_wp2_with (first
        |(go_at_call 76;refine (visName_any s.name _ hnm).mono ?_;rintro e wn ⟨rfl,hbn⟩;rw[h1];have g1:=Lib.hid (g0.out.below hbn);have hb:=Lib.hid (below_step hb0.out hbn);clear hbn;(obtain⟨c0,c1,c2,c3⟩:=g1.out.c4;have c4:=g1.out.c 4 _ rfl;have c5:=g1.out.c 5 _ rfl))
        |(go_at_call 77;clear c0 c1 c2 c3 c4 c5;refine (depth_any s _ _ hsm.out (by omega) (by omega)).mono ?_;rintro e wn ⟨rfl,hbn⟩;replace g1:=Lib.hid (g1.out.below hbn);replace hb:=Lib.hid (below_step hb.out hbn);clear hbn;(obtain⟨c0,c1,c2,c3⟩:=g1.out.c4;have c4:=g1.out.c 4 _ rfl;have c5:=g1.out.c 5 _ rfl))
        |((first | (go_at_call 37) | (go_at_call 23) | (go_at_call 22) | (go_at_call 31) | (go_at_call 69) | (go_at_call 32));first | refine rin ?_ | refine rout ?_ | refine rany ?_))
       go_ret
       exact⟨ret_int hf.out.symm,hb.out⟩
      have q0:(s.kind == 0)=false:=by simp[k0]
      have q1:(s.kind != 0)=true:=by simp[k0]
      by_cases d0:s.depth=0
      ·have e0:(s.depth != 0)=false:=by simp[d0]
       by_cases d1:s.step=0
       ·have e1:(s.step != 0)=false:=by simp[d1]
        by_cases k3:s.kind=3
        ·have q3:(s.kind == 3)=true:=by simp[k3]
         by_cases m1:s.room=1
         ·have e3:(s.room != 1)=false:=by simp[m1]
          have hf:Hid (Cal.siteErr s=0):=by show _=_;unfold Cal.siteErr;rw[if_neg h1n,if_neg (by omega),if_neg hr,if_neg (fun h=>k0 h.1),if_neg (by omega),if_neg (by omega)]
          clear hr k0 d0 d1 k3 m1
          go_enter Tryd.func54,Tryd.ntmps54
          go_wp2_with (first
           |(go_at_call 76;refine (visName_any s.name _ hnm).mono ?_;rintro e wn ⟨rfl,hbn⟩;rw[h1];have g1:=Lib.hid (g0.out.below hbn);have hb:=Lib.hid (below_step hb0.out hbn);clear hbn;(obtain⟨c0,c1,c2,c3⟩:=g1.out.c4;have c4:=g1.out.c 4 _ rfl;have c5:=g1.out.c 5 _ rfl))
           |(go_at_call 77;clear c0 c1 c2 c3 c4 c5;refine (depth_any s _ _ hsm.out (by omega) (by omega)).mono ?_;rintro e wn ⟨rfl,hbn⟩;replace g1:=Lib.hid (g1.out.below hbn);replace hb:=Lib.hid (below_step hb.out hbn);clear hbn;(obtain⟨c0,c1,c2,c3⟩:=g1.out.c4;have c4:=g1.out.c 4 _ rfl;have c5:=g1.out.c 5 _ rfl))
           |((first | (go_at_call 37) | (go_at_call 23) | (go_at_call 22) | (go_at_call 31) | (go_at_call 69) | (go_at_call 32));first | refine rin ?_ | refine rout ?_ | refine rany ?_))
          go_ret
          exact⟨ret_int hf.out.symm,hb.out⟩
         have e3:(s.room != 1)=true:=by simp[m1]
         have hf:Hid (Cal.siteErr s=3):=by show _=_;unfold Cal.siteErr;rw[if_neg h1n,if_neg (by omega),if_neg hr,if_neg (fun h=>k0 h.1),if_neg (by omega),if_pos (by omega)]
         clear hr k0 d0 d1 k3 m1
         go_enter Tryd.func54,Tryd.ntmps54
         go_wp2_with (first
          |(go_at_call 76;refine (visName_any s.name _ hnm).mono ?_;rintro e wn ⟨rfl,hbn⟩;rw[h1];have g1:=Lib.hid (g0.out.below hbn);have hb:=Lib.hid (below_step hb0.out hbn);clear hbn;(obtain⟨c0,c1,c2,c3⟩:=g1.out.c4;have c4:=g1.out.c 4 _ rfl;have c5:=g1.out.c 5 _ rfl))
          |(go_at_call 77;clear c0 c1 c2 c3 c4 c5;refine (depth_any s _ _ hsm.out (by omega) (by omega)).mono ?_;rintro e wn ⟨rfl,hbn⟩;replace g1:=Lib.hid (g1.out.below hbn);replace hb:=Lib.hid (below_step hb.out hbn);clear hbn;(obtain⟨c0,c1,c2,c3⟩:=g1.out.c4;have c4:=g1.out.c 4 _ rfl;have c5:=g1.out.c 5 _ rfl))
          |((first | (go_at_call 37) | (go_at_call 23) | (go_at_call 22) | (go_at_call 31) | (go_at_call 69) | (go_at_call 32));first | refine rin ?_ | refine rout ?_ | refine rany ?_))
         go_ret
         exact⟨ret_int hf.out.symm,hb.out⟩
        have q3:(s.kind == 3)=false:=by simp[k3]
        have hf:Hid (Cal.siteErr s=0):=by show _=_;unfold Cal.siteErr;rw[if_neg h1n,if_neg (by omega),if_neg hr,if_neg (fun h=>k0 h.1),if_neg (by omega),if_neg (by omega)]
        clear hr k0 d0 d1 k3
        go_enter Tryd.func54,Tryd.ntmps54
        go_wp2_with (first
         |(go_at_call 76;refine (visName_any s.name _ hnm).mono ?_;rintro e wn ⟨rfl,hbn⟩;rw[h1];have g1:=Lib.hid (g0.out.below hbn);have hb:=Lib.hid (below_step hb0.out hbn);clear hbn;(obtain⟨c0,c1,c2,c3⟩:=g1.out.c4;have c4:=g1.out.c 4 _ rfl;have c5:=g1.out.c 5 _ rfl))
         |(go_at_call 77;clear c0 c1 c2 c3 c4 c5;refine (depth_any s _ _ hsm.out (by omega) (by omega)).mono ?_;rintro e wn ⟨rfl,hbn⟩;replace g1:=Lib.hid (g1.out.below hbn);replace hb:=Lib.hid (below_step hb.out hbn);clear hbn;(obtain⟨c0,c1,c2,c3⟩:=g1.out.c4;have c4:=g1.out.c 4 _ rfl;have c5:=g1.out.c 5 _ rfl))
         |((first | (go_at_call 37) | (go_at_call 23) | (go_at_call 22) | (go_at_call 31) | (go_at_call 69) | (go_at_call 32));first | refine rin ?_ | refine rout ?_ | refine rany ?_))
        go_ret
        exact⟨ret_int hf.out.symm,hb.out⟩
       have e1:(s.step != 0)=true:=by simp[d1]
       have hf:Hid (Cal.siteErr s=3):=by show _=_;unfold Cal.siteErr;rw[if_neg h1n,if_neg (by omega),if_neg hr,if_neg (fun h=>k0 h.1),if_pos (by omega)]
       clear hr k0 d0 d1
       go_enter Tryd.func54,Tryd.ntmps54
       go_wp2_with (first
        |(go_at_call 76;refine (visName_any s.name _ hnm).mono ?_;rintro e wn ⟨rfl,hbn⟩;rw[h1];have g1:=Lib.hid (g0.out.below hbn);have hb:=Lib.hid (below_step hb0.out hbn);clear hbn;(obtain⟨c0,c1,c2,c3⟩:=g1.out.c4;have c4:=g1.out.c 4 _ rfl;have c5:=g1.out.c 5 _ rfl))
        |(go_at_call 77;clear c0 c1 c2 c3 c4 c5;refine (depth_any s _ _ hsm.out (by omega) (by omega)).mono ?_;rintro e wn ⟨rfl,hbn⟩;replace g1:=Lib.hid (g1.out.below hbn);replace hb:=Lib.hid (below_step hb.out hbn);clear hbn;(obtain⟨c0,c1,c2,c3⟩:=g1.out.c4;have c4:=g1.out.c 4 _ rfl;have c5:=g1.out.c 5 _ rfl))
        |((first | (go_at_call 37) | (go_at_call 23) | (go_at_call 22) | (go_at_call 31) | (go_at_call 69) | (go_at_call 32));first | refine rin ?_ | refine rout ?_ | refine rany ?_))
       go_ret
       exact⟨ret_int hf.out.symm,hb.out⟩
      have e0:(s.depth != 0)=true:=by simp[d0]
      have hf:Hid (Cal.siteErr s=3):=by show _=_;unfold Cal.siteErr;rw[if_neg h1n,if_neg (by omega),if_neg hr,if_neg (fun h=>k0 h.1),if_pos (by omega)]
      clear hr k0 d0
      go_enter Tryd.func54,Tryd.ntmps54
      go_wp2_with (first
       |(go_at_call 76;refine (visName_any s.name _ hnm).mono ?_;rintro e wn ⟨rfl,hbn⟩;rw[h1];have g1:=Lib.hid (g0.out.below hbn);have hb:=Lib.hid (below_step hb0.out hbn);clear hbn;(obtain⟨c0,c1,c2,c3⟩:=g1.out.c4;have c4:=g1.out.c 4 _ rfl;have c5:=g1.out.c 5 _ rfl))
       |(go_at_call 77;clear c0 c1 c2 c3 c4 c5;refine (depth_any s _ _ hsm.out (by omega) (by omega)).mono ?_;rintro e wn ⟨rfl,hbn⟩;replace g1:=Lib.hid (g1.out.below hbn);replace hb:=Lib.hid (below_step hb.out hbn);clear hbn;(obtain⟨c0,c1,c2,c3⟩:=g1.out.c4;have c4:=g1.out.c 4 _ rfl;have c5:=g1.out.c 5 _ rfl))
       |((first | (go_at_call 37) | (go_at_call 23) | (go_at_call 22) | (go_at_call 31) | (go_at_call 69) | (go_at_call 32));first | refine rin ?_ | refine rout ?_ | refine rany ?_))
      go_ret
      exact⟨ret_int hf.out.symm,hb.out⟩
     have hf:Hid (Cal.siteErr s=2):=by show _=_;unfold Cal.siteErr;rw[if_neg h1n];rw[if_neg (by omega),if_pos (by omega)]
     go_enter Tryd.func54,Tryd.ntmps54
     go_wp2_with (first
      |(go_at_call 76;refine (visName_any s.name _ hnm).mono ?_;rintro e wn ⟨rfl,hbn⟩;rw[h1];have g1:=Lib.hid (g0.out.below hbn);have hb:=Lib.hid (below_step hb0.out hbn);clear hbn;(obtain⟨c0,c1,c2,c3⟩:=g1.out.c4;have c4:=g1.out.c 4 _ rfl;have c5:=g1.out.c 5 _ rfl))
      |(go_at_call 77;clear c0 c1 c2 c3 c4 c5;refine (depth_any s _ _ hsm.out (by omega) (by omega)).mono ?_;rintro e wn ⟨rfl,hbn⟩;replace g1:=Lib.hid (g1.out.below hbn);replace hb:=Lib.hid (below_step hb.out hbn);clear hbn;(obtain⟨c0,c1,c2,c3⟩:=g1.out.c4;have c4:=g1.out.c 4 _ rfl;have c5:=g1.out.c 5 _ rfl))
      |((first | (go_at_call 37) | (go_at_call 23) | (go_at_call 22) | (go_at_call 31) | (go_at_call 69) | (go_at_call 32));first | refine rin ?_ | refine rout ?_ | refine rany ?_))
     go_ret
     exact⟨ret_int hf.out.symm,hb.out⟩
    have hf:Hid (Cal.siteErr s=2):=by show _=_;unfold Cal.siteErr;rw[if_neg h1n];rw[if_neg (by omega),if_pos (by omega)]
    go_enter Tryd.func54,Tryd.ntmps54
    go_wp2_with (first
     |(go_at_call 76;refine (visName_any s.name _ hnm).mono ?_;rintro e wn ⟨rfl,hbn⟩;rw[h1];have g1:=Lib.hid (g0.out.below hbn);have hb:=Lib.hid (below_step hb0.out hbn);clear hbn;(obtain⟨c0,c1,c2,c3⟩:=g1.out.c4;have c4:=g1.out.c 4 _ rfl;have c5:=g1.out.c 5 _ rfl))
     |(go_at_call 77;clear c0 c1 c2 c3 c4 c5;refine (depth_any s _ _ hsm.out (by omega) (by omega)).mono ?_;rintro e wn ⟨rfl,hbn⟩;replace g1:=Lib.hid (g1.out.below hbn);replace hb:=Lib.hid (below_step hb.out hbn);clear hbn;(obtain⟨c0,c1,c2,c3⟩:=g1.out.c4;have c4:=g1.out.c 4 _ rfl;have c5:=g1.out.c 5 _ rfl))
     |((first | (go_at_call 37) | (go_at_call 23) | (go_at_call 22) | (go_at_call 31) | (go_at_call 69) | (go_at_call 32));first | refine rin ?_ | refine rout ?_ | refine rany ?_))
    go_ret
    exact⟨ret_int hf.out.symm,hb.out⟩
   have hf:Hid (Cal.siteErr s=2):=by show _=_;unfold Cal.siteErr;rw[if_neg h1n];rw[if_neg (by omega),if_pos (by omega)]
   go_enter Tryd.func54,Tryd.ntmps54
   go_wp2_with (first
    |(go_at_call 76;refine (visName_any s.name _ hnm).mono ?_;rintro e wn ⟨rfl,hbn⟩;rw[h1];have g1:=Lib.hid (g0.out.below hbn);have hb:=Lib.hid (below_step hb0.out hbn);clear hbn;(obtain⟨c0,c1,c2,c3⟩:=g1.out.c4;have c4:=g1.out.c 4 _ rfl;have c5:=g1.out.c 5 _ rfl))
    |(go_at_call 77;clear c0 c1 c2 c3 c4 c5;refine (depth_any s _ _ hsm.out (by omega) (by omega)).mono ?_;rintro e wn ⟨rfl,hbn⟩;replace g1:=Lib.hid (g1.out.below hbn);replace hb:=Lib.hid (below_step hb.out hbn);clear hbn;(obtain⟨c0,c1,c2,c3⟩:=g1.out.c4;have c4:=g1.out.c 4 _ rfl;have c5:=g1.out.c 5 _ rfl))
    |((first | (go_at_call 37) | (go_at_call 23) | (go_at_call 22) | (go_at_call 31) | (go_at_call 69) | (go_at_call 32));first | refine rin ?_ | refine rout ?_ | refine rany ?_))
   go_ret
   exact⟨ret_int hf.out.symm,hb.out⟩
  have hf:Hid (Cal.siteErr s=2):=by show _=_;unfold Cal.siteErr;rw[if_neg h1n];rw[if_neg (by omega),if_pos (by omega)]
  go_enter Tryd.func54,Tryd.ntmps54
  go_wp2_with (first
   |(go_at_call 76;refine (visName_any s.name _ hnm).mono ?_;rintro e wn ⟨rfl,hbn⟩;rw[h1];have g1:=Lib.hid (g0.out.below hbn);have hb:=Lib.hid (below_step hb0.out hbn);clear hbn;(obtain⟨c0,c1,c2,c3⟩:=g1.out.c4;have c4:=g1.out.c 4 _ rfl;have c5:=g1.out.c 5 _ rfl))
   |(go_at_call 77;clear c0 c1 c2 c3 c4 c5;refine (depth_any s _ _ hsm.out (by omega) (by omega)).mono ?_;rintro e wn ⟨rfl,hbn⟩;replace g1:=Lib.hid (g1.out.below hbn);replace hb:=Lib.hid (below_step hb.out hbn);clear hbn;(obtain⟨c0,c1,c2,c3⟩:=g1.out.c4;have c4:=g1.out.c 4 _ rfl;have c5:=g1.out.c 5 _ rfl))
   |((first | (go_at_call 37) | (go_at_call 23) | (go_at_call 22) | (go_at_call 31) | (go_at_call 69) | (go_at_call 32));first | refine rin ?_ | refine rout ?_ | refine rany ?_))
  go_ret
  exact⟨ret_int hf.out.symm,hb.out⟩
 have hf:Hid (Cal.siteErr s=15):=by show _=_;unfold Cal.siteErr;rw[if_neg h1n];rw[if_pos hk]
 go_enter Tryd.func54,Tryd.ntmps54
 go_wp2_with (first
  |(go_at_call 76;refine (visName_any s.name _ hnm).mono ?_;rintro e wn ⟨rfl,hbn⟩;rw[h1];have g1:=Lib.hid (g0.out.below hbn);have hb:=Lib.hid (below_step hb0.out hbn);clear hbn;(obtain⟨c0,c1,c2,c3⟩:=g1.out.c4;have c4:=g1.out.c 4 _ rfl;have c5:=g1.out.c 5 _ rfl))
  |(go_at_call 77;clear c0 c1 c2 c3 c4 c5;refine (depth_any s _ _ hsm.out (by omega) (by omega)).mono ?_;rintro e wn ⟨rfl,hbn⟩;replace g1:=Lib.hid (g1.out.below hbn);replace hb:=Lib.hid (below_step hb.out hbn);clear hbn;(obtain⟨c0,c1,c2,c3⟩:=g1.out.c4;have c4:=g1.out.c 4 _ rfl;have c5:=g1.out.c 5 _ rfl))
  |((first | (go_at_call 37) | (go_at_call 23) | (go_at_call 22) | (go_at_call 31) | (go_at_call 69) | (go_at_call 32));first | refine rin ?_ | refine rout ?_ | refine rany ?_))
 go_ret
 exact⟨ret_int hf.out.symm,hb.out⟩
end Go.Proofs.YtcnfhnndppollaaDoor
namespace Go.Proofs.YtcnfhnndppollaaDoor
open Go Go.RowKit Go.Maps Go.WideMaps
theorem laid_okV:laidOutB Tryd.prog=true:=by kernel_rfl
theorem kd_keyed:Keyed Tryd.prog 110:=Keyed.of_law (deep_law_laid laid_okV (m:=3) (by decide) (by decide +kernel) (by kernel_rfl) (by kernel_rfl))
theorem keyLits_intV (d:Nat) (n:Int) (h0:-9223372036854775808≤n) (h1:n≤9223372036854775807):(Tryd.prog).keyLits (d+1) 3 [.int .i64 n]=some [.int .i64 n]:=by
 have hu:(Tryd.prog).underlying 3=_:=Tryd.underlying3
 unfold Program.keyLits
 rw[hu]
 dsimp only
 rw[if_pos]
 refine⟨rfl,?_⟩
 have e0:IntKind.i64.min=-9223372036854775808:=by decide
 have e1:IntKind.i64.max=9223372036854775807:=by decide
 simp only[Lit.wf,Bool.and_eq_true,decide_eq_true_eq,e0,e1]
 exact⟨h0,h1⟩
def KdK:Type:={ p:Int × Int // (0≤p.1∧p.1≤9)∧(0≤p.2∧p.2≤2) }
instance instKdK:DecidableEq KdK:=fun a b=>decidable_of_iff (a.1=b.1) ⟨Subtype.ext,fun h=>by rw[h]⟩
theorem kd_key (p:KdK):∃ l,keyOf Tryd.prog 110 (.agg #[.int .i64 p.1.1,.int .i64 p.1.2])=some l:=by
 have hu:(Tryd.prog).underlying 110=_:=Tryd.underlying110
 have hk:(Tryd.prog).keyType 110=true:=by kernel_rfl
 have hf:Value.formed Tryd.prog 110 (.agg #[.int .i64 p.1.1,.int .i64 p.1.2])=true:=by unfold Value.formed;rw[hu];kernel_rfl
 unfold keyOf
 rw[hu]
 dsimp only
 rw[hk,hf,Bool.and_self,if_pos rfl]
 have hsz:1<(Tryd.prog).types.size:=by decide +kernel
 obtain⟨d,hd⟩:∃ d,(Tryd.prog).types.size+1=d+1+1:=⟨(Tryd.prog).types.size-1,by omega⟩
 rw[hd]
 unfold Program.keyLits
 rw[hu]
 dsimp only
 have hc:(Tryd.prog).cellsOf 110=2:=by kernel_rfl
 have hi:(Tryd.prog).cellsOf 3=1:=by kernel_rfl
 have hcs:(Value.agg #[.int .i64 p.1.1,.int .i64 p.1.2]).cells.toList=[.int .i64 p.1.1,.int .i64 p.1.2]:=rfl
 rw[hc,hcs,if_pos ⟨rfl,by decide +kernel⟩]
 have hp:=p.2
 have k1:=keyLits_intV d p.1.1 (by omega) (by omega)
 have k2:=keyLits_intV d p.1.2 (by omega) (by omega)
 simp[hi,k1,k2]
theorem kd_lits:∃ lit:KdK→Lit,(∀ p:KdK,keyOf Tryd.prog 110 (.agg #[.int .i64 p.1.1,.int .i64 p.1.2])=some (lit p))∧∀ p q,lit p=lit q→p=q:=by
 have hk:∀ p:KdK,keyOf Tryd.prog 110 (.agg #[.int .i64 p.1.1,.int .i64 p.1.2])=some ((keyOf Tryd.prog 110 (.agg #[.int .i64 p.1.1,.int .i64 p.1.2])).getD (.bool true)):=fun p=>by
  obtain⟨l,hl⟩:=kd_key p
  rw[hl]
  rfl
 refine⟨fun p=>(keyOf Tryd.prog 110 (.agg #[.int .i64 p.1.1,.int .i64 p.1.2])).getD (.bool true),hk,fun p q h=>?_⟩
 have h1:=hk p
 have h2:=hk q
 dsimp only at h
 rw[←h] at h2
 have h3:=kd_keyed.inj h1 h2
 refine Subtype.ext ?_
 obtain⟨⟨a,b⟩,hp⟩:=p
 obtain⟨⟨c,d⟩,hq⟩:=q
 simp at h3
 simp[h3]
def seenR (seen:List Rst) (a b:Int):Bool:=seen.any (fun q=>decide (q.soil=a) && decide (q.cont=b))
def SeenKd (seen:List Rst) (f:KdK→Option Value):Prop:=∀ x:KdK,(f x).getD (.bool false)=.bool (seenR seen x.1.1 x.1.2)
theorem SeenKd.start:SeenKd [] (fun _=>none):=fun _=>rfl
theorem SeenKd.step {seen:List Rst} {f:KdK→Option Value} (h:SeenKd seen f) (r:Rst) (q:KdK) (hq:q.1=(r.soil,r.cont)):SeenKd (r :: seen) (setAt f q (.bool true)):=fun x=>by
 unfold seenR
 rw[List.any_cons]
 by_cases e:x=q
 ·subst e
  rw[setAt_same,hq]
  simp
 rw[setAt_other _ _ e,h x]
 have:(decide (r.soil=x.1.1) && decide (r.cont=x.1.2))=false:=by
  cases hb:(decide (r.soil=x.1.1) && decide (r.cont=x.1.2))
  ·rfl
  simp at hb
  exact absurd (Subtype.ext (by rw[hq];exact Prod.ext hb.1.symm hb.2.symm)) e
 rw[this,Bool.false_or]
 rfl
structure KdI (w:World) (lit:KdK→Lit) (M:Nat) (seen:List Rst) (n:Nat) (W:World):Prop where
 map:∃ f,MapIs Tryd.prog 110 lit W M n f∧SeenKd seen f
 lt:M<W.heap.size
 bel:Below w.heap.size w W
section
variable {w : World} {lit : KdK → Lit} {M n : Nat} {seen : List Rst} {W W' : World}
theorem KdI.below (h:KdI w lit M seen n W) (hb:Below W.heap.size W W'):KdI w lit M seen n W':=by
 obtain⟨⟨f,h1,h2⟩,h3,h4⟩:=h
 exact⟨⟨f,h1.below hb h3,h2⟩,Nat.lt_of_lt_of_le h3 hb.size,below_step h4 hb⟩
theorem KdI.look (h:KdI w lit M seen n W) (hkey:∀ p:KdK,keyOf Tryd.prog 110 (.agg #[.int .i64 p.1.1,.int .i64 p.1.2])=some (lit p)) (q:KdK):(Instr.lookup 108 (.map (some M)) (.agg #[.int .i64 q.1.1,.int .i64 q.1.2]) false).run Tryd.prog W=.ok (.bool (seenR seen q.1.1 q.1.2)) W:=by
 obtain⟨f,h1,h2⟩:=h.map
 rw[h1.look kd_keyed Tryd.underlying108 (boolZero _) (hkey q),h2]
theorem KdI.update (h:KdI w lit M seen n W) (hkey:∀ p:KdK,keyOf Tryd.prog 110 (.agg #[.int .i64 p.1.1,.int .i64 p.1.2])=some (lit p)) (hinj:∀ p q,lit p=lit q→p=q) (r:Rst) (q:KdK) (hq:q.1=(r.soil,r.cont)) (hn:n<1000000) (hM:w.heap.size≤M) :
  ∃ w',(Instr.mapUpdate 108 (.map (some M)) (.agg #[.int .i64 q.1.1,.int .i64 q.1.2]) (.bool true)).run Tryd.prog W=.ok () w'∧KdI w lit M (r :: seen) (n+1) w'∧w'.heap.size=W.heap.size∧W.grownBy w' (some M):=by
 obtain⟨⟨f,h1,h2⟩,h3,h4⟩:=h
 obtain⟨w2,hrun,hm2,hg2,hsz2⟩:=h1.store hinj kd_keyed Tryd.underlying108 (by unfold maxLen;omega) (val:=.bool true) (hkey q)
 exact⟨w2,hrun,⟨⟨_,hm2,h2.step r q hq⟩,by omega,h4.grown hg2 h4.size (fun k e=>by cases e;exact hM)⟩,hsz2,hg2⟩
end
theorem sitesErr_drop {l:List Site} {k:Nat} (h:k<l.length):Cal.sitesErr (l.take k) (l.drop k)=if Cal.siteErr l[k]≠0 then Cal.siteErr l[k] else if (Cal.siteOf (l.take k) l[k].name).isSome then 5 else Cal.sitesErr (l.take (k+1)) (l.drop (k+1)):=by
 rw[List.drop_eq_getElem_cons h]
 show (if _ then _ else if _ then _ else Cal.sitesErr (l.take k ++ [l[k]]) (l.drop (k+1)))=_
 rw[List.take_succ_eq_append_getElem h]
theorem restsE_drop {l:List Rst} {k:Nat} (h:k<l.length) (seen:List Rst):Cal.restsE seen (l.drop k)=if Cal.restBad l[k] then 2 else if seenR seen l[k].soil l[k].cont then 5 else Cal.restsE (l[k] :: seen) (l.drop (k+1)):=by
 rw[List.drop_eq_getElem_cons h]
 rfl
theorem site_cells {w:World} {S:Option Addr} {l:List Site} (h:RowsAt w S 6 (l.map Site.cells)) {k:Nat} {s:Site} (hk:l[k]?=some s) :
  ∃ b o,S=some ⟨b,o,none⟩∧b<w.heap.size∧w.cell? ⟨b,o+k*6,none⟩=some (.string s.name)∧w.cell? ⟨b,o+k*6+1,none⟩=some (.int .i64 s.kind)∧w.cell? ⟨b,o+k*6+2,none⟩=some (.int .i64 s.soil)∧w.cell? ⟨b,o+k*6+3,none⟩=some (.int .i64 s.depth)∧w.cell? ⟨b,o+k*6+4,none⟩=some (.int .i64 s.step)∧w.cell? ⟨b,o+k*6+5,none⟩=some (.int .i64 s.room):=by
 obtain⟨b,o,h1,h2,h3⟩:=site_at h hk
 exact⟨b,o,h1,h2,h3 0 _ rfl,h3 1 _ rfl,h3 2 _ rfl,h3 3 _ rfl,h3 4 _ rfl,h3 5 _ rfl⟩
theorem cov_ix0 (x y z:Int) (w:World):(Instr.index 24 (.agg #[.int .i64 x,.int .i64 y,.int .i64 z]) (.int .i64 0)).run Tryd.prog w=.ok (.int .i64 x) w:=by kernel_rfl
theorem cov_ix1 (x y z:Int) (w:World):(Instr.index 24 (.agg #[.int .i64 x,.int .i64 y,.int .i64 z]) (.int .i64 1)).run Tryd.prog w=.ok (.int .i64 y) w:=by kernel_rfl
theorem cov_ix2 (x y z:Int) (w:World):(Instr.index 24 (.agg #[.int .i64 x,.int .i64 y,.int .i64 z]) (.int .i64 2)).run Tryd.prog w=.ok (.int .i64 z) w:=by kernel_rfl
structure CyI (w:World) (S R:Option Addr) (c d:Nat) (y:Yd) (W:World):Prop where
 a:BoxAt W w.heap.size [.slice S y.sites.length c,.slice R y.rests.length d,.int .i64 y.c0,.int .i64 y.c1,.int .i64 y.c2]
 bel:Below w.heap.size w W
theorem CyI.below {w:World} {S R:Option Addr} {c d:Nat} {y:Yd} {W W':World} (h:CyI w S R c d y W) (hb:Below W.heap.size W W'):CyI w S R c d y W':=⟨h.a.below hb,below_step h.bel hb⟩
theorem CheckYard_any (S R:Option Addr) (c d:Nat) (y:Yd) (w:World) (hY:YdIn w S R y) (hcap:y.sites.length≤c) :
  Calls Tryd.prog 34 #[.agg #[.slice S y.sites.length c,.slice R y.rests.length d,.int .i64 y.c0,.int .i64 y.c1,.int .i64 y.c2]] w fun e w'=>e=.returned (.int .i64 (Cal.yardE y))∧Below w.heap.size w w':=by
 have hsl:=hY.slen
 have hrl:=hY.rlen
 have hY:=Lib.hid (fun w' (h:Below w.heap.size w w')=>hY.below h)
 have hI:Hid (CyI w S R c d y (w.alloc (.cells #[.slice S y.sites.length c,.slice R y.rests.length d,.int .i64 y.c0,.int .i64 y.c1,.int .i64 y.c2] 26))):=⟨BoxAt.new w #[.slice S y.sites.length c,.slice R y.rests.length d,.int .i64 y.c0,.int .i64 y.c1,.int .i64 y.c2] 26,below_alloc _ _⟩
 by_cases hbig:60<y.sites.length
 ·have hf:Hid (Cal.yardE y=8):=by show _=_;unfold Cal.yardE;rw[if_pos hbig]
  (obtain⟨a0,a1,a2,a3⟩:=hI.out.a.c4;have a4:=hI.out.a.c 4 _ rfl)
  go_enter Tryd.func34,Tryd.ntmps34
  go_wp2
  go_ret
  exact⟨ret_int hf.out.symm,hI.out.bel⟩
 have hfE:Hid (Cal.yardE y=if Cal.sitesErr [] y.sites≠0 then Cal.sitesErr [] y.sites else if 40<y.rests.length then 8 else if Cal.restsE [] y.rests≠0 then Cal.restsE [] y.rests else Cal.coversE y):=by show _=_;unfold Cal.yardE;rw[if_neg hbig]
 go_enter Tryd.func34,Tryd.ntmps34
 (obtain⟨a0,a1,a2,a3⟩:=hI.out.a.c4;have a4:=hI.out.a.c 4 _ rfl)
 go_wp2
 obtain⟨w1,hw1⟩:∃ w1,(w.alloc (.cells #[.slice S y.sites.length c,.slice R y.rests.length d,.int .i64 y.c0,.int .i64 y.c1,.int .i64 y.c2] 26))=w1:=⟨_,rfl⟩
 rw[hw1] at hI ⊢
 clear a0 a1 a2 a3 a4
 clear hw1
 go_loopw [3,4,5,19] (fun _ _ _ i wr=>∃ k:Nat,k≤y.sites.length∧i=.int .i64 k∧Hid (CyI w S R c d y wr)∧Hid (Cal.sitesErr [] y.sites=Cal.sitesErr (y.sites.take k) (y.sites.drop k))) (fun _ _ _ i _=>y.sites.length-(intOf i).toNat)
 case atStart=>exact⟨0,Nat.zero_le _,rfl,hI,rfl⟩
 case round =>
  clear hI
  obtain⟨k,hk,rfl,hI,hE⟩:=hrel
  by_cases hlt:k<y.sites.length
  ·have hd:=sitesErr_drop hlt
   have hk':y.sites[k]?=some y.sites[k]:=List.getElem?_eq_getElem hlt
   have hnm:=Lib.hid ((hY.out _ hI.out.bel).nm _ (List.getElem_mem hlt))
   obtain⟨b,o,rfl,hbl,r0,r1,r2,r3,r4,r5⟩:=site_cells (hY.out _ hI.out.bel).sites hk'
   clear hk'
   generalize y.sites[k]=s at *
   rw[←hE.out] at hd
   have hS0:Hid (∀ W,Below w.heap.size w W→RowsAt W (some ⟨b,o,none⟩) 6 (y.sites.map Site.cells)):=fun W h=>(hY.out W h).sites
   have hkc:k≤c:=by omega
   clear hE
   have hI:=Lib.hid (hI.out.below (below_alloc wr (.cells #[.string s.name,.int .i64 s.kind,.int .i64 s.soil,.int .i64 s.depth,.int .i64 s.step,.int .i64 s.room] 53)))
   have g4:=Lib.hid (BoxAt.new wr #[.string s.name,.int .i64 s.kind,.int .i64 s.soil,.int .i64 s.depth,.int .i64 s.step,.int .i64 s.room] 53)
   (obtain⟨a0,a1,a2,a3⟩:=hI.out.a.c4;have a4:=hI.out.a.c 4 _ rfl)
   by_cases e0:Cal.siteErr s=0
   ·rw[if_neg (by rw[e0];simp)] at hd
    have hd:=Lib.hid hd
    have e0:=Lib.hid e0
    go_wp2_with (go_at_call 54;clear a0 a1 a2 a3 a4;refine (CheckSite_any s _ hnm.out).mono ?_;rintro e wn ⟨rfl,hbn⟩;rw[e0.out];replace hI:=Lib.hid (hI.out.below hbn);replace g4:=Lib.hid (g4.out.below hbn);clear hbn;(obtain⟨a0,a1,a2,a3⟩:=hI.out.a.c4;have a4:=hI.out.a.c 4 _ rfl))
    clear a0 a1 a2 a3 a4
    have hrow:=(hS0.out _ hI.out.bel).headI k
    rw[←List.map_take] at hrow
    have hrow:=Lib.hid hrow
    refine wp_region_held_drew (S:=Sx w [(w.heap.size,0,.slice (some ⟨b,o,none⟩) y.sites.length c),(wr.heap.size,0,.string s.name)]) (by kernel_rfl) (Sx.mk (by simp only[cs_iff_cons];exact⟨hI.out.a.c 0 _ rfl,g4.out.c 0 _ rfl,cs_nil _⟩) (hI.out.bel.trans (Below.refl _ _).drew)) (fun hHeld=>?_)
    refine tkHx 0 29 ?_
    refine tkHx 1 30 ?_
    refine tkHx 2 31 ?_
    refine tkHx 3 32 ?_
    refine tkHx 4 33 ?_
    refine tkHx 5 34 ?_
    refine tkHx 6 35 ?_
    (refine ratHx 7 (fun K hK=>?_);go_simp)
    have hrow2:=Lib.hid (hrow.out.below ((Below.refl wn.heap.size wn).drew))
    refine (siteOf_gen (some ⟨b,o,none⟩) c (y.sites.take k) k _ _ _ _ s.name _ hrow2.out (by rw[List.length_take];omega) (by rw[List.length_take];omega) rfl).mono ?_
    rintro e wm ⟨v,rfl,hv,hbm⟩
    replace hI:=Lib.hid (hI.out.below (((Below.refl wn.heap.size wn).drew).trans hbm))
    have hv:=Lib.hid hv
    cases hso:Cal.siteOf (y.sites.take k) s.name with
    | none =>
     rw[hso] at hv
     obtain rfl:v=.pointer none:=hv.out
     have hE2:Hid (Cal.sitesErr [] y.sites=Cal.sitesErr (y.sites.take (k+1)) (y.sites.drop (k+1))):=by show _=_;rw[hd.out,hso];rfl
     clear hv hso hd
     go_simp
     (refine hK.out _ _ (hHeld.step hbm) (fun hHeld=>?_);clear hK K;(try simp only[apS,apN,siA,scZ,scS]))
     refine tkHx 8 37 ?_
     refine wpAnyH_done (by kernel_rfl) ?_ _
     go_wp2_with fail
     go_roundw
     case rel=>exact⟨k+1,by omega,by go_num,hI,hE2⟩
     case measure=>simp[intOf];omega
    | some q =>
     rw[hso] at hv
     obtain⟨qb,qo,rfl,_,_⟩:=hv.out
     have hf:Hid (Cal.yardE y=5):=by
      show _=_
      have e5:Cal.sitesErr [] y.sites=5:=by rw[hd.out,hso];rfl
      rw[hfE.out,e5];rfl
     clear hv hso hd
     go_simp
     (refine hK.out _ _ (hHeld.step hbm) (fun hHeld=>?_);clear hK K;(try simp only[apS,apN,siA,scZ,scS]))
     refine tkHx 8 37 ?_
     refine wpAnyH_done (by kernel_rfl) ?_ _
     go_wp2_with fail
     go_ret
     exact⟨ret_int hf.out.symm,hI.out.bel⟩
   rw[if_pos e0] at hd
   have hf:Hid (Cal.yardE y=Cal.siteErr s):=by
    show _=_
    rw[hfE.out,hd,if_pos e0]
   have e1:(Cal.siteErr s != 0)=true:=by simp[e0]
   clear hd e0
   go_wp2_with (go_at_call 54;clear a0 a1 a2 a3 a4;refine (CheckSite_any s _ hnm.out).mono ?_;rintro e wn ⟨rfl,hbn⟩;replace hI:=Lib.hid (hI.out.below hbn);clear hbn;(obtain⟨a0,a1,a2,a3⟩:=hI.out.a.c4;have a4:=hI.out.a.c 4 _ rfl))
   go_ret
   exact⟨ret_int hf.out.symm,hI.out.bel⟩
  obtain rfl:k=y.sites.length:=by omega
  have hE0:Cal.sitesErr [] y.sites=0:=by rw[hE.out,List.drop_length];rfl
  rw[hE0,if_neg (by simp)] at hfE
  clear hE hE0
  (obtain⟨a0,a1,a2,a3⟩:=hI.out.a.c4;have a4:=hI.out.a.c 4 _ rfl)
  by_cases h40:40<y.rests.length
  ·have hf:Hid (Cal.yardE y=8):=by show _=_;rw[hfE.out,if_pos h40]
   have h40':40<(y.rests.length:Int):=by omega
   go_wp2_with fail
   go_ret
   exact⟨ret_int hf.out.symm,hI.out.bel⟩
  rw[if_neg h40] at hfE
  have h40':¬40<(y.rests.length:Int):=by omega
  have hmm:=@run_makeMap Tryd.prog
  have b1m:=(hI.out.below (below_alloc wr (.map #[] 0))).a.c 1 _ rfl
  go_wp2_with fail
  clear b1m
  obtain⟨lit,hkey,hinj⟩:=kd_lits
  have hM:=MapIs.made Tryd.prog 110 lit wr
  have hlt0:wr.heap.size<(wr.alloc (.map #[] 0)).heap.size:=by simp
  have hI1:=hI.out.below (below_alloc wr (.map #[] 0))
  have hMw:w.heap.size≤wr.heap.size:=hI.out.bel.size
  have hMw2:w.heap.size<wr.heap.size:=hI.out.a.lt
  clear a0 a1 a2 a3 a4
  obtain⟨w2,hw2⟩:∃ w2,wr.alloc (.map #[] 0)=w2:=⟨_,rfl⟩
  rw[hw2] at hM hI1 hlt0 ⊢
  clear hw2 hmm hI
  generalize wr.heap.size=M at *
  have hK0:Hid (KdI w lit M [] 0 w2):=⟨⟨_,hM,SeenKd.start⟩,hlt0,hI1.bel⟩
  have hI0:=Lib.hid hI1
  clear hM hlt0 hI1
  go_loopw [8,9,47] (fun _ _ i wr=>∃ (k:Nat) (seen:List Rst),k≤y.rests.length∧i=.int .i64 k∧Hid (Cal.restsE [] y.rests=Cal.restsE seen (y.rests.drop k))∧Hid (KdI w lit M seen k wr)∧Hid (CyI w S R c d y wr)) (fun _ _ i _=>y.rests.length-(intOf i).toNat)
  case atStart=>exact⟨0,[],Nat.zero_le _,rfl,rfl,hK0,hI0⟩
  case round =>
   clear hK0 hI0
   obtain⟨k,seen,hk,rfl,hE,hK,hI⟩:=hrel
   by_cases hlt:k<y.rests.length
   ·have hd:=restsE_drop hlt seen
    have hk':y.rests[k]?=some y.rests[k]:=List.getElem?_eq_getElem hlt
    obtain⟨b,o,rfl,hbl,r0,r1,r2⟩:=rest_at (hY.out _ hI.out.bel).rests hk'
    clear hk'
    generalize y.rests[k]=r at *
    rw[←hE.out] at hd
    have hb1:=below_alloc wr (.cells #[.int .i64 r.soil,.int .i64 r.cont,.int .i64 r.days] 73)
    by_cases hbad:Cal.restBad r
    ·rw[if_pos hbad] at hd
     have hf:Hid (Cal.yardE y=2):=by show _=_;rw[hfE.out,hd];rfl
     have hb:=Lib.hid (hI.out.bel.trans (hb1.mono hI.out.bel.size))
     have hbad':¬(0≤r.soil∧r.soil≤9)∨¬(0≤r.cont∧r.cont≤2)∨¬(0≤r.days∧r.days≤100000):=hbad
     clear hd hE hbad hb1
     by_cases z1:0≤r.soil∧r.soil≤9
     ·by_cases z2:0≤r.cont∧r.cont≤2
      ·have z3:¬(0≤r.days∧r.days≤100000):=by omega
       go_wp2_with ((first | (go_at_call 37) | (go_at_call 23) | (go_at_call 22) | (go_at_call 31) | (go_at_call 69) | (go_at_call 32));first | refine rin ?_ | refine rout ?_ | refine rany ?_)
       go_ret
       exact⟨ret_int hf.out.symm,hb.out⟩
      go_wp2_with ((first | (go_at_call 37) | (go_at_call 23) | (go_at_call 22) | (go_at_call 31) | (go_at_call 69) | (go_at_call 32));first | refine rin ?_ | refine rout ?_ | refine rany ?_)
      go_ret
      exact⟨ret_int hf.out.symm,hb.out⟩
     go_wp2_with ((first | (go_at_call 37) | (go_at_call 23) | (go_at_call 22) | (go_at_call 31) | (go_at_call 69) | (go_at_call 32));first | refine rin ?_ | refine rout ?_ | refine rany ?_)
     go_ret
     exact⟨ret_int hf.out.symm,hb.out⟩
    rw[if_neg hbad] at hd
    have z1:(0≤r.soil∧r.soil≤9)∧(0≤r.cont∧r.cont≤2)∧(0≤r.days∧r.days≤100000):=by unfold Cal.restBad at hbad;omega
    obtain⟨z1,z2,z3⟩:=z1
    have hb2:=below_step hb1 (below_alloc (wr.alloc (.cells #[.int .i64 r.soil,.int .i64 r.cont,.int .i64 r.days] 73)) (.cells #[.int .i64 r.soil,.int .i64 r.cont] 110))
    have hK1:=Lib.hid (hK.out.below hb2)
    have hI1:=Lib.hid (hI.out.below hb2)
    clear hb1 hb2 hK hI hbad
    have hlk:=hK1.out.look hkey ⟨(r.soil,r.cont),z1,z2⟩
    dsimp only at hlk
    cases hs:seenR seen r.soil r.cont
    ·rw[hs] at hlk hd
     have hE2:Hid (Cal.restsE [] y.rests=Cal.restsE (r :: seen) (y.rests.drop (k+1))):=hd
     obtain⟨w4,hup,hK2,hsz2,hg2⟩:=hK1.out.update hkey hinj r ⟨(r.soil,r.cont),z1,z2⟩ rfl (by omega) hMw
     dsimp only at hup
     have hI2:Hid (CyI w S (some ⟨b,o,none⟩) c d y w4):=⟨hI1.out.a.grown hg2 (by simp;omega),hI1.out.bel.grown hg2 hI1.out.bel.size (fun k e=>by cases e;exact hMw)⟩
     have hK2:=Lib.hid hK2
     clear hd hE hs hsz2 hg2
     go_wp2_with ((first | (go_at_call 37) | (go_at_call 23) | (go_at_call 22) | (go_at_call 31) | (go_at_call 69) | (go_at_call 32));first | refine rin ?_ | refine rout ?_ | refine rany ?_)
     go_roundw
     case rel=>exact⟨k+1,r :: seen,by omega,by go_num,hE2,hK2,hI2⟩
     case measure=>simp[intOf];omega
    rw[hs] at hlk hd
    have hf:Hid (Cal.yardE y=5):=by show _=_;rw[hfE.out,hd];rfl
    clear hd hE hs
    go_wp2_with ((first | (go_at_call 37) | (go_at_call 23) | (go_at_call 22) | (go_at_call 31) | (go_at_call 69) | (go_at_call 32));first | refine rin ?_ | refine rout ?_ | refine rany ?_)
    go_ret
    exact⟨ret_int hf.out.symm,hI1.out.bel⟩
   obtain rfl:k=y.rests.length:=by omega
   have hE0:Cal.restsE [] y.rests=0:=by rw[hE.out,List.drop_length];rfl
   rw[hE0,if_neg (by simp)] at hfE
   clear hE hE0 hK
   (obtain⟨a0,a1,a2,a3⟩:=hI.out.a.c4;have a4:=hI.out.a.c 4 _ rfl)
   have ix0:=cov_ix0 y.c0 y.c1 y.c2
   have ix1:=cov_ix1 y.c0 y.c1 y.c2
   have ix2:=cov_ix2 y.c0 y.c1 y.c2
   by_cases m0:0≤y.c0∧y.c0≤1000
   ·by_cases m1:0≤y.c1∧y.c1≤1000
    ·by_cases m2:0≤y.c2∧y.c2≤1000
     ·have hf:Hid (Cal.yardE y=0):=by show _=_;rw[hfE.out];unfold Cal.coversE;exact if_neg (by omega)
      clear hfE
      go_wp2_with fail
      refine wp_loop_rounds 4 ?_
      rw[rounds_succ]
      go_wp2_with ((first | (go_at_call 37) | (go_at_call 23) | (go_at_call 22) | (go_at_call 31) | (go_at_call 69) | (go_at_call 32));first | refine rin ?_ | refine rout ?_ | refine rany ?_)
      rw[rounds_succ]
      go_wp2_with ((first | (go_at_call 37) | (go_at_call 23) | (go_at_call 22) | (go_at_call 31) | (go_at_call 69) | (go_at_call 32));first | refine rin ?_ | refine rout ?_ | refine rany ?_)
      rw[rounds_succ]
      go_wp2_with ((first | (go_at_call 37) | (go_at_call 23) | (go_at_call 22) | (go_at_call 31) | (go_at_call 69) | (go_at_call 32));first | refine rin ?_ | refine rout ?_ | refine rany ?_)
      rw[rounds_succ]
      go_wp2_with ((first | (go_at_call 37) | (go_at_call 23) | (go_at_call 22) | (go_at_call 31) | (go_at_call 69) | (go_at_call 32));first | refine rin ?_ | refine rout ?_ | refine rany ?_)
      go_ret
      exact⟨ret_int hf.out.symm,hI.out.bel⟩
     have hf:Hid (Cal.yardE y=2):=by show _=_;rw[hfE.out];unfold Cal.coversE;exact if_pos (by omega)
     clear hfE
     go_wp2_with fail
     refine wp_loop_rounds 4 ?_
     rw[rounds_succ]
     go_wp2_with ((first | (go_at_call 37) | (go_at_call 23) | (go_at_call 22) | (go_at_call 31) | (go_at_call 69) | (go_at_call 32));first | refine rin ?_ | refine rout ?_ | refine rany ?_)
     rw[rounds_succ]
     go_wp2_with ((first | (go_at_call 37) | (go_at_call 23) | (go_at_call 22) | (go_at_call 31) | (go_at_call 69) | (go_at_call 32));first | refine rin ?_ | refine rout ?_ | refine rany ?_)
     rw[rounds_succ]
     go_wp2_with ((first | (go_at_call 37) | (go_at_call 23) | (go_at_call 22) | (go_at_call 31) | (go_at_call 69) | (go_at_call 32));first | refine rin ?_ | refine rout ?_ | refine rany ?_)
     go_ret
     exact⟨ret_int hf.out.symm,hI.out.bel⟩
    have hf:Hid (Cal.yardE y=2):=by show _=_;rw[hfE.out];unfold Cal.coversE;exact if_pos (by omega)
    clear hfE
    go_wp2_with fail
    refine wp_loop_rounds 4 ?_
    rw[rounds_succ]
    go_wp2_with ((first | (go_at_call 37) | (go_at_call 23) | (go_at_call 22) | (go_at_call 31) | (go_at_call 69) | (go_at_call 32));first | refine rin ?_ | refine rout ?_ | refine rany ?_)
    rw[rounds_succ]
    go_wp2_with ((first | (go_at_call 37) | (go_at_call 23) | (go_at_call 22) | (go_at_call 31) | (go_at_call 69) | (go_at_call 32));first | refine rin ?_ | refine rout ?_ | refine rany ?_)
    go_ret
    exact⟨ret_int hf.out.symm,hI.out.bel⟩
   have hf:Hid (Cal.yardE y=2):=by show _=_;rw[hfE.out];unfold Cal.coversE;exact if_pos (by omega)
   clear hfE
   go_wp2_with fail
   refine wp_loop_rounds 4 ?_
   rw[rounds_succ]
   go_wp2_with ((first | (go_at_call 37) | (go_at_call 23) | (go_at_call 22) | (go_at_call 31) | (go_at_call 69) | (go_at_call 32));first | refine rin ?_ | refine rout ?_ | refine rany ?_)
   go_ret
   exact⟨ret_int hf.out.symm,hI.out.bel⟩
end Go.Proofs.YtcnfhnndppollaaDoor
