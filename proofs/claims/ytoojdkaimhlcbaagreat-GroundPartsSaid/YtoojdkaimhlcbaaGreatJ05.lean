/- What the statements rest on: definitions and walks, part 05. -/
import Derived.Test.YtoojdkaimhlcbaaGreatJ04
import Derived.Deep.CutRange
set_option maxRecDepth 100000
set_option maxHeartbeats 16000000
set_option linter.unusedSimpArgs false
set_option linter.unusedVariables false
namespace Go.Proofs.YtoojdkaimhlcbaaGreat
open Go Go.RowKit Go.Shelf
def frR (x:Int × Int):List Value:=[.int .i64 x.1,.int .i64 x.2]
theorem elemFr:Elem Tryz.prog 49 59 2 16:=Elem.mk' Tryz.underlying49 (z:=.agg #[.int .i64 0,.int .i64 0]) (by kernel_rfl) rfl (by decide)
structure XBox (B:Nat) (f t d wt:Int) (W:World):Prop where
 b:BoxAt W B [.int .i64 f,.int .i64 t,.int .i64 d,.int .i64 wt]
theorem XBox.set {B:Nat} {f t d wt:Int} {W:World} (h:XBox B f t d wt W) {b o:Nat} (hne:B≠b) (v:Value):XBox B f t d wt (W.setCell ⟨b,o,none⟩ v) :=
 ⟨h.b.grown (row:=some b) ⟨rfl,rfl,rfl,by rw[World.size_setCell];exact Nat.le_refl _,fun k _ hk=>Below.heap_setCell W ⟨b,o,none⟩ v k (fun e=>hk (by rw[e]))⟩ (fun e=>hne (by cases e;rfl))⟩
theorem XBox.drew {B:Nat} {f t d wt:Int} {W:World} (h:XBox B f t d wt W):XBox B f t d wt W.drew:=⟨h.b.below ((Below.refl _ _).drew)⟩
theorem HtI.start1 {w W:World} {n:Nat} (hb:Below w.heap.size w W):HtI w W.heap.size (W.heap.size+1) (fun _=>0) n 0 (fun _ _=>0) (fun _=>0) ((W.alloc (.cells (madeCells #[.slice none 0 0] n) 84)).alloc (.cells (madeCells #[.int .i64 0] n) 3)):=by
 have h2:=World.rowIs_made (W.alloc (.cells (madeCells #[.slice none 0 0] n) 84)) (.int .i64 0) n 3
 rw[World.size_alloc] at h2
 exact⟨((World.rowIs_made W (.slice none 0 0) n 84).alloc _).congr (fun i _=>by rw[if_neg (by omega)]),fun i hi=>by omega,h2,by omega,fun i hi=>by omega,fun i j hi=>by omega,hb.size,by have:=hb.size;omega,fun i hi=>by omega,below_step (below_step hb (below_alloc _ _)) (below_alloc _ _)⟩
theorem HtI.start2 {w W:World} {n:Nat} (hb:Below w.heap.size w W):HtI w (W.heap.size+1) W.heap.size (fun _=>0) n 0 (fun _ _=>0) (fun _=>0) ((W.alloc (.cells (madeCells #[.int .i64 0] n) 3)).alloc (.cells (madeCells #[.slice none 0 0] n) 84)):=by
 have h2:=World.rowIs_made (W.alloc (.cells (madeCells #[.int .i64 0] n) 3)) (.slice none 0 0) n 84
 rw[World.size_alloc] at h2
 exact⟨h2.congr (fun i _=>by rw[if_neg (by omega)]),fun i hi=>by omega,(World.rowIs_made W (.int .i64 0) n 3).alloc _,by omega,fun i hi=>by omega,fun i j hi=>by omega,by have:=hb.size;omega,hb.size,fun i hi=>by omega,below_step (below_step hb (below_alloc _ _)) (below_alloc _ _)⟩
theorem Heights_any (N:Int) (A:Option Addr) (c:Nat) (l:List Lev) (w:World) (hL:Levs w A l) :
  Calls Tryz.prog 15 #[.int .i64 N,.slice A l.length c] w fun e w'=>∃ v,e=.returned (.tuple #[v,.int .i64 (Cal.netE N l)])∧OwnL w' w.heap.size 59 2 v ((if Cal.netE N l=0 then Cal.heightsP (N.toNat-1) l else []).map frR)∧Below w.heap.size w w':=by
 have hck:=Lib.hid (fun W (hb:Below w.heap.size w W)=>CheckNet_any N A c l W (hL.below hb))
 have hb0:Hid (Below w.heap.size w w):=Below.refl _ _
 by_cases hz:Cal.netE N l=0
 ·obtain⟨hn1,hn6,hl20,hlev,_⟩:=Cal.netE_zero hz
  obtain⟨n,rfl⟩:∃ n:Nat,N=((n+1:Nat):Int):=⟨N.toNat-1,by omega⟩
  have hres:Hid ((if Cal.netE ((n+1:Nat):Int) l=0 then Cal.heightsP (((n+1:Nat):Int).toNat-1) l else [])=Cal.heightsP n l):=by
   show _=_
   rw[if_pos hz,Int.toNat_natCast,Nat.add_sub_cancel]
  rw[hres.out]
  obtain⟨he1,he2,he3,he4,he5,he6⟩:=Cal.net_edges hz
  have hDp:=Cal.hD_pos hz
  have hlev:=Lib.hid hlev
  rw[hz]
  replace hz:=Lib.hid hz
  have hk1:∀ W,(Instr.makeSlice 83 (.int .i64 ((n:Int)+1)) (.int .i64 ((n:Int)+1))).run Tryz.prog W=.ok (.slice (some ⟨W.heap.size,0,none⟩) (n+1) (n+1)) (W.alloc (.cells (madeCells #[.slice none 0 0] (n+1)) 84)):=fun W=>mk_mat W (n+1) (by omega)
  have hk2:∀ W,(Instr.makeSlice 84 (.int .i64 ((n:Int)+1)) (.int .i64 ((n:Int)+1))).run Tryz.prog W=.ok (.slice (some ⟨W.heap.size,0,none⟩) (n+1) (n+1)) (W.alloc (.cells (madeCells #[.int .i64 0] (n+1)) 3)):=fun W=>mk_ints W (n+1) (by omega)
  replace hL:=Lib.hid hL
  clear hres
  go_enter Tryz.func15,Tryz.ntmps15
  go_wp2_with (go_at_call 35;refine (hck.out _ hb0.out).mono ?_;rintro e0 w1 ⟨rfl,hb1⟩;rw[hz.out];replace hb1:=Lib.hid hb1;clear hck hb0)
  go_cut [7,8] from 21 to 24 (fun m7 m8 wc=>∃ G H:Nat,m7=.slice (some ⟨G,0,none⟩) (n+1) (n+1)∧m8=.slice (some ⟨H,0,none⟩) (n+1) (n+1)∧Hid (HtI w G H (fun _=>0) (n+1) 0 (fun _ _=>0) (fun _=>0) wc))
  case first =>
   refine wp_region_held_drew (S:=Sx w1 []) (by kernel_rfl) (Sx.mk (cs_nil _) (Below.refl _ _)).drew (fun hHeld=>?_)
   refine tkHx 0 21 ?_
   refine tkHx 2 23 ?_
   (refine wpAnyH_ready (rs:=[1,3]) (by decide +kernel) (by simp) ?_;refine AllReadyH.cons rfl (fun K hK=>?_) (AllReadyH.cons rfl (fun K hK=>?_) AllReadyH.nil))
   ·(rw[if_pos (by kernel_rfl)];go_simp)
    refine hK.out _ _ (hHeld.alloc _) (fun hHeld=>?_)
    clear hK K
    (try simp only[apS,apN,siA,scZ,scS])
    refine tkHx 4 7 ?_
    (refine ratHx 3 (fun K hK=>?_);go_simp)
    refine hK.out _ _ (hHeld.alloc _) (fun hHeld=>?_)
    clear hK K
    (try simp only[apS,apN,siA,scZ,scS])
    refine tkHx 5 8 ?_
    refine wpAnyH_done (by kernel_rfl) ?_ _
    (try simp only[apS,apN,siA,scZ,scS])
    have hH:=Lib.hid (HtI.start1 (w:=w) (W:=w1.drew) (n:=n+1) hb1.out.drew)
    clear hHeld hk1 hk2
    go_wp2_with fail
    go_meet
    case rel=>exact⟨_,_,rfl,rfl,hH⟩
   (rw[if_pos (by kernel_rfl)];go_simp)
   refine hK.out _ _ (hHeld.alloc _) (fun hHeld=>?_)
   clear hK K
   (try simp only[apS,apN,siA,scZ,scS])
   (refine ratHx 1 (fun K hK=>?_);go_simp)
   refine hK.out _ _ (hHeld.alloc _) (fun hHeld=>?_)
   clear hK K
   (try simp only[apS,apN,siA,scZ,scS])
   refine tkHx 4 7 ?_
   refine tkHx 5 8 ?_
   refine wpAnyH_done (by kernel_rfl) ?_ _
   (try simp only[apS,apN,siA,scZ,scS])
   have hH:=Lib.hid (HtI.start2 (w:=w) (W:=w1.drew) (n:=n+1) hb1.out.drew)
   clear hHeld hk1 hk2
   go_wp2_with fail
   go_meet
   case rel=>exact⟨_,_,rfl,rfl,hH⟩
  case rest =>
   obtain⟨G,H,rfl,rfl,hI⟩:=hcut
   clear hk1 hb1
   go_wp2_with fail
   go_loopw [27] (fun i wr=>∃ (k:Nat) (R:Nat→Nat),k≤n+1∧i=.int .i64 k∧Hid (HtI w G H R (n+1) k (fun _ _=>0) (fun _=>0) wr)) (fun i _=>n+1-(intOf i).toNat)
   case atStart=>exact⟨0,_,Nat.zero_le _,rfl,hI⟩
   case round =>
    clear hI
    obtain⟨k,R,hk,rfl,hI⟩:=hrel
    by_cases hlt:k<n+1
    ·have c0:=hI.out.o.cell hlt
     rw[if_neg (by omega)] at c0
     have f0:=hI.out.o.frozen k
     have g0:=hI.out.o.lt
     have hI2:=hI.out.row
     rw[World.setCell_alloc_past _ _ _ _ g0] at hI2
     replace hI2:=Lib.hid hI2
     clear hI
     go_wp2_with fail
     go_roundw
     case rel=>exact⟨k+1,_,by omega,by go_num,hI2⟩
     case measure=>simp[intOf];omega
    have hI9:Hid (HtI w G H R (n+1) (n+1) (fun _ _=>0) (fun _=>0) wr):=by
     have e:k=n+1:=by omega
     rw[e] at hI
     exact hI
    clear hk2 hI
    go_wp2_with fail
    have hI0:Hid (HtI w G H R (n+1) (n+1) (Cal.lap (Cal.edges (l.take 0))) (Cal.rhs (Cal.edges (l.take 0))) wr):=hI9
    clear hI9
    go_loopw [38] (fun i wr=>∃ k:Nat,k≤l.length∧i=.int .i64 k∧Hid (HtI w G H R (n+1) (n+1) (Cal.lap (Cal.edges (l.take k))) (Cal.rhs (Cal.edges (l.take k))) wr)) (fun i _=>l.length-(intOf i).toNat)
    case atStart=>exact⟨0,Nat.zero_le _,rfl,hI0⟩
    case round =>
     clear hI0
     obtain⟨k,hk,rfl,hI⟩:=hrel
     by_cases hlt:k<l.length
     ·have hk':l[k]?=some l[k]:=List.getElem?_eq_getElem hlt
      have hv:=Cal.levE_zero (hlev.out _ (List.getElem_mem hlt))
      have htk:Cal.edges (l.take (k+1))=Cal.edges (l.take k) ++ [Cal.edge l[k]]:=by
       unfold Cal.edges
       rw[List.take_succ_eq_append_getElem hlt,List.map_append];rfl
      have hsub:∀ e∈Cal.edges (l.take k),e∈Cal.edges l:=fun e he=>by
       obtain⟨x,hx,rfl⟩:=List.mem_map.1 he
       exact List.mem_map.2 ⟨x,List.mem_of_mem_take hx,rfl⟩
      have hel:(Cal.edges (l.take k)).length≤20:=by unfold Cal.edges;rw[List.length_map,List.length_take];omega
      have hbx:=fun i j=>Cal.lap_box (fun e he=>he3 e (hsub e he)) hel i j
      have hrx:=fun i=>Cal.rhs_box (fun e he=>he3 e (hsub e he)) (fun e he=>he4 e (hsub e he)) hel i
      generalize Cal.edges (l.take k)=es at *
      generalize l[k]=x at *
      obtain⟨b,o,rfl,hbl,c0,c1,c2,c3⟩:=lev_at (hL.out.below hI.out.bel).rows hk'
      obtain⟨xf,xt,d,wt⟩:=x
      dsimp only at *
      obtain⟨⟨f0,f1⟩,⟨t0,t1⟩,hft,d0,d1,w0,w1'⟩:=hv
      obtain⟨f,rfl⟩:∃ f:Nat,xf=(f:Int):=⟨xf.toNat,by omega⟩
      obtain⟨t,rfl⟩:∃ t:Nat,xt=(t:Int):=⟨xt.toNat,by omega⟩
      have hfn:f<n+1:=by omega
      have htn:t<n+1:=by omega
      have hfi:(f:Int)<(n:Int)+1:=by omega
      have hti:(t:Int)<(n:Int)+1:=by omega
      have hne:f≠t:=by omega
      have hfour:=lap_four (l:=es) (e:=⟨f,t,d,wt⟩) hne
      have htwo:=rhs_two (l:=es) (e:=⟨f,t,d,wt⟩) hne
      have hed:Cal.edges (l.take (k+1))=es ++ [⟨f,t,d,wt⟩]:=htk
      dsimp only at hfour htwo
      rw[←hed] at hfour htwo
      generalize hlf:Cal.lap es=lf at *
      generalize hrf:Cal.rhs es=rf at *
      have v2:upd lf f f (lf f f+wt) t t=lf t t:=by unfold upd;rw[if_neg (by omega)]
      have v3:upd (upd lf f f (lf f f+wt)) t t (lf t t+wt) f t=lf f t:=by unfold upd;rw[if_neg (by omega),if_pos rfl,if_neg (by omega)]
      have v4:upd (upd (upd lf f f (lf f f+wt)) t t (lf t t+wt)) f t (lf f t-wt) t f=lf t f:=by unfold upd;rw[if_neg (by omega),if_pos rfl,if_neg (by omega),if_neg (by omega)]
      have v6:updR rf t (rf t+wt*d) f=rf f:=by unfold updR;rw[if_neg (by omega)]
      have b1:=hbx f f
      have b2:=hbx t t
      have b3:=hbx f t
      have b4:=hbx t f
      have b5:=hrx t
      have b6:=hrx f
      have hmul:=mul_le_of (a:=wt) (b:=d) (M:=10) (N:=100000) (by omega) (by omega) (by omega) (by omega)
      have q1:IntKind.i64.wrap (lf f f+wt)=lf f f+wt:=wrap_small (by omega) (by omega)
      have q2:IntKind.i64.wrap (lf t t+wt)=lf t t+wt:=wrap_small (by omega) (by omega)
      have q3:IntKind.i64.wrap (lf f t-wt)=lf f t-wt:=wrap_small (by omega) (by omega)
      have q4:IntKind.i64.wrap (lf t f-wt)=lf t f-wt:=wrap_small (by omega) (by omega)
      have q5:IntKind.i64.wrap (wt*d)=wt*d:=wrap_small (by omega) (by omega)
      have q6:IntKind.i64.wrap (rf t+wt*d)=rf t+wt*d:=wrap_small (by omega) (by omega)
      have q7:IntKind.i64.wrap (rf f-wt*d)=rf f-wt*d:=wrap_small (by omega) (by omega)
      replace v2:=Lib.hid v2
      replace v3:=Lib.hid v3
      replace v4:=Lib.hid v4
      replace v6:=Lib.hid v6
      replace hfour:=Lib.hid hfour
      replace htwo:=Lib.hid htwo
      have nR:∀ i,i<n+1→wr.heap.size≠R i:=fun i hi=>by have:=(hI.out.m i hi).lt;omega
      have nH:wr.heap.size≠H:=by have:=hI.out.r.lt;omega
      have hx:Hid (XBox wr.heap.size (f:Int) (t:Int) d wt (wr.alloc (.cells #[.int .i64 (f:Int),.int .i64 (t:Int),.int .i64 d,.int .i64 wt] 86))):=⟨BoxAt.new wr #[.int .i64 (f:Int),.int .i64 (t:Int),.int .i64 d,.int .i64 wt] 86⟩
      replace hI:=Lib.hid (hI.out.below (below_alloc wr (.cells #[.int .i64 (f:Int),.int .i64 (t:Int),.int .i64 d,.int .i64 wt] 86)))
      clear hbx hrx hmul htk hed hsub hk' hlf hrf f0 f1 t0 t1
      go_wp2_with fail
      generalize hBx:wr.heap.size=Bx at *
      generalize hXw1:wr.alloc (.cells #[.int .i64 (f:Int),.int .i64 (t:Int),.int .i64 d,.int .i64 wt] 86)=Xw1 at *
      clear hXw1 hBx c0 c1 c2 c3 hbl
      have m0:=hI.out.outer (i:=f) (by omega) (by omega)
      have m1:Xw1.cell? ⟨R f,f,none⟩=some (.int .i64 (lf f f)):=((hI.out.m f (by omega)).cell (i:=f) (by omega)).trans (congrArg some (congrArg (Value.int .i64) rfl))
      have f1:=(hI.out.m f (by omega)).frozen f
      obtain⟨c0,c1,c2,c3⟩:=hx.out.b.c4
      go_wp2_with fail
      refine wp_region_heldZ (S:=Sx Xw1 [(Bx,0,.int .i64 (f:Int)),(Bx,1,.int .i64 (t:Int)),(Bx,2,.int .i64 d),(Bx,3,.int .i64 wt),(G,f,.slice (some ⟨R f,0,none⟩) (n+1) (n+1)),(R f,f,.int .i64 (lf f f))]) 13 (by kernel_rfl) (Sx.mk (by simp only[cs_iff_cons];exact⟨c0,c1,c2,c3,m0,m1,cs_nil _⟩) (Below.refl _ _)).drew (fun hHeld=>?_)
      clear c0 c1 c2 c3 m0
      replace hI:=Lib.hid (hI.out.below hHeld.bel)
      replace hx:Hid (XBox Bx (f:Int) (t:Int) d wt Xw1.drew):=hx.out.drew
      replace m1:Xw1.drew.cell? _=_:=m1
      replace f1:Xw1.drew.frozen? _=_:=f1
      generalize Xw1.drew=Yw1 at *
      refine tkZx 0 42 ?_
      refine tkZx 1 43 ?_
      refine tkZx 2 44 ?_
      refine tkZx 3 45 ?_
      refine tkZx 4 46 ?_
      refine tkZx 5 47 ?_
      refine tkZx 6 48 ?_
      refine tkZx 7 49 ?_
      refine tkZx 8 50 ?_
      refine tkZx 9 51 ?_
      refine tkZx 10 52 ?_
      refine tkZx 11 53 ?_
      refine tkZx 12 54 ?_
      (refine ratZc 13 (by decide +kernel) rfl (by decide +kernel) (fun K hK=>?_);rw[if_pos (by kernel_rfl)];go_simp;refine hK.out _ _ ?_;clear hK K;(try simp only[apS,apN,siA,scZ,scS]))
      refine wpAnyHY_done (by decide +kernel) ?_ _
      (try simp only[apS,apN,siA,scZ,scS])
      clear hHeld m1 f1
      replace hx:=Lib.hid (hx.out.set (o:=f) (nR f (by omega)) (.int .i64 (lf f f+wt)))
      replace hI:=Lib.hid (hI.out.setM (a:=f) (by omega) f (lf f f+wt))
      generalize hXw2:Yw1.setCell ⟨R f,f,none⟩ (.int .i64 (lf f f+wt))=Xw2 at *
      clear hXw2
      have m0:=hI.out.outer (i:=t) (by omega) (by omega)
      have m1:Xw2.cell? ⟨R t,t,none⟩=some (.int .i64 (lf t t)):=((hI.out.m t (by omega)).cell (i:=t) (by omega)).trans (congrArg some (congrArg (Value.int .i64) v2.out))
      have f1:=(hI.out.m t (by omega)).frozen t
      obtain⟨c0,c1,c2,c3⟩:=hx.out.b.c4
      go_wp2_with fail
      refine wp_region_heldZ (S:=Sx Xw2 [(Bx,0,.int .i64 (f:Int)),(Bx,1,.int .i64 (t:Int)),(Bx,2,.int .i64 d),(Bx,3,.int .i64 wt),(G,t,.slice (some ⟨R t,0,none⟩) (n+1) (n+1)),(R t,t,.int .i64 (lf t t))]) 13 (by kernel_rfl) (Sx.mk (by simp only[cs_iff_cons];exact⟨c0,c1,c2,c3,m0,m1,cs_nil _⟩) (Below.refl _ _)).drew (fun hHeld=>?_)
      clear c0 c1 c2 c3 m0
      replace hI:=Lib.hid (hI.out.below hHeld.bel)
      replace hx:Hid (XBox Bx (f:Int) (t:Int) d wt Xw2.drew):=hx.out.drew
      replace m1:Xw2.drew.cell? _=_:=m1
      replace f1:Xw2.drew.frozen? _=_:=f1
      generalize Xw2.drew=Yw2 at *
      refine tkZx 0 55 ?_
      refine tkZx 1 56 ?_
      refine tkZx 2 57 ?_
      refine tkZx 3 58 ?_
      refine tkZx 4 59 ?_
      refine tkZx 5 60 ?_
      refine tkZx 6 61 ?_
      refine tkZx 7 62 ?_
      refine tkZx 8 63 ?_
      refine tkZx 9 64 ?_
      refine tkZx 10 65 ?_
      refine tkZx 11 66 ?_
      refine tkZx 12 67 ?_
      (refine ratZc 13 (by decide +kernel) rfl (by decide +kernel) (fun K hK=>?_);rw[if_pos (by kernel_rfl)];go_simp;refine hK.out _ _ ?_;clear hK K;(try simp only[apS,apN,siA,scZ,scS]))
      refine wpAnyHY_done (by decide +kernel) ?_ _
      (try simp only[apS,apN,siA,scZ,scS])
      clear hHeld m1 f1
      replace hx:=Lib.hid (hx.out.set (o:=t) (nR t (by omega)) (.int .i64 (lf t t+wt)))
      replace hI:=Lib.hid (hI.out.setM (a:=t) (by omega) t (lf t t+wt))
      generalize hXw3:Yw2.setCell ⟨R t,t,none⟩ (.int .i64 (lf t t+wt))=Xw3 at *
      clear hXw3
      have m0:=hI.out.outer (i:=f) (by omega) (by omega)
      have m1:Xw3.cell? ⟨R f,t,none⟩=some (.int .i64 (lf f t)):=((hI.out.m f (by omega)).cell (i:=t) (by omega)).trans (congrArg some (congrArg (Value.int .i64) v3.out))
      have f1:=(hI.out.m f (by omega)).frozen t
      obtain⟨c0,c1,c2,c3⟩:=hx.out.b.c4
      go_wp2_with fail
      refine wp_region_heldZ (S:=Sx Xw3 [(Bx,0,.int .i64 (f:Int)),(Bx,1,.int .i64 (t:Int)),(Bx,2,.int .i64 d),(Bx,3,.int .i64 wt),(G,f,.slice (some ⟨R f,0,none⟩) (n+1) (n+1)),(R f,t,.int .i64 (lf f t))]) 13 (by kernel_rfl) (Sx.mk (by simp only[cs_iff_cons];exact⟨c0,c1,c2,c3,m0,m1,cs_nil _⟩) (Below.refl _ _)).drew (fun hHeld=>?_)
      clear c0 c1 c2 c3 m0
      replace hI:=Lib.hid (hI.out.below hHeld.bel)
      replace hx:Hid (XBox Bx (f:Int) (t:Int) d wt Xw3.drew):=hx.out.drew
      replace m1:Xw3.drew.cell? _=_:=m1
      replace f1:Xw3.drew.frozen? _=_:=f1
      generalize Xw3.drew=Yw3 at *
      refine tkZx 0 68 ?_
      refine tkZx 1 69 ?_
      refine tkZx 2 70 ?_
      refine tkZx 3 71 ?_
      refine tkZx 4 72 ?_
      refine tkZx 5 73 ?_
      refine tkZx 6 74 ?_
      refine tkZx 7 75 ?_
      refine tkZx 8 76 ?_
      refine tkZx 9 77 ?_
      refine tkZx 10 78 ?_
      refine tkZx 11 79 ?_
      refine tkZx 12 80 ?_
      (refine ratZc 13 (by decide +kernel) rfl (by decide +kernel) (fun K hK=>?_);rw[if_pos (by kernel_rfl)];go_simp;refine hK.out _ _ ?_;clear hK K;(try simp only[apS,apN,siA,scZ,scS]))
      refine wpAnyHY_done (by decide +kernel) ?_ _
      (try simp only[apS,apN,siA,scZ,scS])
      clear hHeld m1 f1
      replace hx:=Lib.hid (hx.out.set (o:=t) (nR f (by omega)) (.int .i64 (lf f t-wt)))
      replace hI:=Lib.hid (hI.out.setM (a:=f) (by omega) t (lf f t-wt))
      generalize hXw4:Yw3.setCell ⟨R f,t,none⟩ (.int .i64 (lf f t-wt))=Xw4 at *
      clear hXw4
      have m0:=hI.out.outer (i:=t) (by omega) (by omega)
      have m1:Xw4.cell? ⟨R t,f,none⟩=some (.int .i64 (lf t f)):=((hI.out.m t (by omega)).cell (i:=f) (by omega)).trans (congrArg some (congrArg (Value.int .i64) v4.out))
      have f1:=(hI.out.m t (by omega)).frozen f
      obtain⟨c0,c1,c2,c3⟩:=hx.out.b.c4
      go_wp2_with fail
      refine wp_region_heldZ (S:=Sx Xw4 [(Bx,0,.int .i64 (f:Int)),(Bx,1,.int .i64 (t:Int)),(Bx,2,.int .i64 d),(Bx,3,.int .i64 wt),(G,t,.slice (some ⟨R t,0,none⟩) (n+1) (n+1)),(R t,f,.int .i64 (lf t f))]) 13 (by kernel_rfl) (Sx.mk (by simp only[cs_iff_cons];exact⟨c0,c1,c2,c3,m0,m1,cs_nil _⟩) (Below.refl _ _)).drew (fun hHeld=>?_)
      clear c0 c1 c2 c3 m0
      replace hI:=Lib.hid (hI.out.below hHeld.bel)
      replace hx:Hid (XBox Bx (f:Int) (t:Int) d wt Xw4.drew):=hx.out.drew
      replace m1:Xw4.drew.cell? _=_:=m1
      replace f1:Xw4.drew.frozen? _=_:=f1
      generalize Xw4.drew=Yw4 at *
      refine tkZx 0 81 ?_
      refine tkZx 1 82 ?_
      refine tkZx 2 83 ?_
      refine tkZx 3 84 ?_
      refine tkZx 4 85 ?_
      refine tkZx 5 86 ?_
      refine tkZx 6 87 ?_
      refine tkZx 7 88 ?_
      refine tkZx 8 89 ?_
      refine tkZx 9 90 ?_
      refine tkZx 10 91 ?_
      refine tkZx 11 92 ?_
      refine tkZx 12 93 ?_
      (refine ratZc 13 (by decide +kernel) rfl (by decide +kernel) (fun K hK=>?_);rw[if_pos (by kernel_rfl)];go_simp;refine hK.out _ _ ?_;clear hK K;(try simp only[apS,apN,siA,scZ,scS]))
      refine wpAnyHY_done (by decide +kernel) ?_ _
      (try simp only[apS,apN,siA,scZ,scS])
      clear hHeld m1 f1
      replace hx:=Lib.hid (hx.out.set (o:=f) (nR t (by omega)) (.int .i64 (lf t f-wt)))
      replace hI:=Lib.hid (hI.out.setM (a:=t) (by omega) f (lf t f-wt))
      generalize hXw5:Yw4.setCell ⟨R t,f,none⟩ (.int .i64 (lf t f-wt))=Xw5 at *
      clear hXw5
      have m1:Xw5.cell? ⟨H,t,none⟩=some (.int .i64 (rf t)):=(hI.out.r.cell (i:=t) (by omega)).trans (congrArg some (congrArg (Value.int .i64) rfl))
      have f1:=hI.out.r.frozen t
      obtain⟨c0,c1,c2,c3⟩:=hx.out.b.c4
      go_wp2_with fail
      refine wp_region_heldZ (S:=Sx Xw5 [(Bx,0,.int .i64 (f:Int)),(Bx,1,.int .i64 (t:Int)),(Bx,2,.int .i64 d),(Bx,3,.int .i64 wt),(H,t,.int .i64 (rf t))]) 12 (by kernel_rfl) (Sx.mk (by simp only[cs_iff_cons];exact⟨c0,c1,c2,c3,m1,cs_nil _⟩) (Below.refl _ _)).drew (fun hHeld=>?_)
      clear c0 c1 c2 c3
      replace hI:=Lib.hid (hI.out.below hHeld.bel)
      replace hx:Hid (XBox Bx (f:Int) (t:Int) d wt Xw5.drew):=hx.out.drew
      replace m1:Xw5.drew.cell? _=_:=m1
      replace f1:Xw5.drew.frozen? _=_:=f1
      generalize Xw5.drew=Yw5 at *
      refine tkZx 0 94 ?_
      refine tkZx 1 95 ?_
      refine tkZx 2 96 ?_
      refine tkZx 3 97 ?_
      refine tkZx 4 98 ?_
      refine tkZx 5 99 ?_
      refine tkZx 6 100 ?_
      refine tkZx 7 101 ?_
      refine tkZx 8 102 ?_
      refine tkZx 9 103 ?_
      refine tkZx 10 104 ?_
      refine tkZx 11 105 ?_
      (refine ratZc 12 (by decide +kernel) rfl (by decide +kernel) (fun K hK=>?_);rw[if_pos (by kernel_rfl)];go_simp;refine hK.out _ _ ?_;clear hK K;(try simp only[apS,apN,siA,scZ,scS]))
      refine wpAnyHY_done (by decide +kernel) ?_ _
      (try simp only[apS,apN,siA,scZ,scS])
      clear hHeld m1 f1
      replace hx:=Lib.hid (hx.out.set (o:=t) nH (.int .i64 (rf t+wt*d)))
      replace hI:=Lib.hid (hI.out.setR t (rf t+wt*d))
      generalize hXw6:Yw5.setCell ⟨H,t,none⟩ (.int .i64 (rf t+wt*d))=Xw6 at *
      clear hXw6
      have m1:Xw6.cell? ⟨H,f,none⟩=some (.int .i64 (rf f)):=(hI.out.r.cell (i:=f) (by omega)).trans (congrArg some (congrArg (Value.int .i64) v6.out))
      have f1:=hI.out.r.frozen f
      obtain⟨c0,c1,c2,c3⟩:=hx.out.b.c4
      go_wp2_with fail
      refine wp_region_heldZ (S:=Sx Xw6 [(Bx,0,.int .i64 (f:Int)),(Bx,1,.int .i64 (t:Int)),(Bx,2,.int .i64 d),(Bx,3,.int .i64 wt),(H,f,.int .i64 (rf f))]) 12 (by kernel_rfl) (Sx.mk (by simp only[cs_iff_cons];exact⟨c0,c1,c2,c3,m1,cs_nil _⟩) (Below.refl _ _)).drew (fun hHeld=>?_)
      clear c0 c1 c2 c3
      replace hI:=Lib.hid (hI.out.below hHeld.bel)
      replace hx:Hid (XBox Bx (f:Int) (t:Int) d wt Xw6.drew):=hx.out.drew
      replace m1:Xw6.drew.cell? _=_:=m1
      replace f1:Xw6.drew.frozen? _=_:=f1
      generalize Xw6.drew=Yw6 at *
      refine tkZx 0 106 ?_
      refine tkZx 1 107 ?_
      refine tkZx 2 108 ?_
      refine tkZx 3 109 ?_
      refine tkZx 4 110 ?_
      refine tkZx 5 111 ?_
      refine tkZx 6 112 ?_
      refine tkZx 7 113 ?_
      refine tkZx 8 114 ?_
      refine tkZx 9 115 ?_
      refine tkZx 10 116 ?_
      refine tkZx 11 117 ?_
      (refine ratZc 12 (by decide +kernel) rfl (by decide +kernel) (fun K hK=>?_);rw[if_pos (by kernel_rfl)];go_simp;refine hK.out _ _ ?_;clear hK K;(try simp only[apS,apN,siA,scZ,scS]))
      refine wpAnyHY_done (by decide +kernel) ?_ _
      (try simp only[apS,apN,siA,scZ,scS])
      clear hHeld m1 f1
      replace hx:=Lib.hid (hx.out.set (o:=f) nH (.int .i64 (rf f-wt*d)))
      replace hI:=Lib.hid (hI.out.setR f (rf f-wt*d))
      generalize hXw7:Yw6.setCell ⟨H,f,none⟩ (.int .i64 (rf f-wt*d))=Xw7 at *
      clear hXw7
      have hIn:Hid (HtI w G H R (n+1) (n+1) (Cal.lap (Cal.edges (l.take (k+1)))) (Cal.rhs (Cal.edges (l.take (k+1)))) Xw7):=by
       show HtI _ _ _ _ _ _ _ _ _
       rw[←hfour.out,←htwo.out]
       exact hI.out
      clear hI hx hfour htwo v2 v3 v4 v6
      go_wp2_with fail
      go_roundw
      case rel=>exact⟨k+1,by omega,by go_num,hIn⟩
      case measure=>simp[intOf];omega
     obtain rfl:k=l.length:=by omega
     rw[List.take_length] at hI
     have hM0:=hI.out.read
     have hMl:(matOf (n+1) (Cal.lap (Cal.edges l))).length=n+1:=matOf_length _ _
     have hMr:∀ r∈matOf (n+1) (Cal.lap (Cal.edges l)),r.length=n+1:=fun r hr=>by
      unfold matOf at hr
      obtain⟨i,_,rfl⟩:=List.mem_map.1 hr
      exact listOf_length _ _
     have hn6':n≤5:=by omega
     have hsq:=minorL_sq hMl hMr (c:=0) (by omega)
     have hwo:Hid (∀ W,Below wr.heap.size wr W→Calls Tryz.prog 36 #[.slice (some ⟨G,0,none⟩) (n+1) (n+1),.int .i64 0] W fun e w'=>∃ A' c' us,e=.returned (.slice A' n c')∧n≤c'∧MatR w' A' (minorL 0 (matOf (n+1) (Cal.lap (Cal.edges l)))) us∧Below W.heap.size W w'):=fun W hb=>by
      have:=without_any (some ⟨G,0,none⟩) (n+1) (matOf (n+1) (Cal.lap (Cal.edges l))) _ 0 W (hM0.below hb) (by omega) (by omega) ⟨by omega,fun r hr=>by rw[hMr r hr];omega⟩ (by omega)
      rw[hMl] at this
      refine this.mono ?_
      rintro e w' ⟨v,us,rfl,hO,hb'⟩
      obtain⟨A',c',rfl,hc',hR⟩:=hO.read
      rw[hsq.1] at hc' ⊢
      exact⟨A',c',us,rfl,hc',hR,hb'⟩
     have hrr:=rowIs_rows hI.out.r
     obtain⟨A1,c1,hcut,hc1,hrows⟩:=cut_tail undIntsI sizeIntI (n:=n+1) (c:=n+1) (by rw[intRows_length,listOf_length]) hrr (Nat.le_refl _) (k:=1) (by omega)
     have hcut2:∀ w',(Instr.slice 84 (.slice (some ⟨H,0,none⟩) (n+1) (n+1)) (some (.int .i64 1)) none none).run Tryz.prog w'=.ok (.slice A1 n c1) w':=hcut
     have hr1:(intRows (listOf (n+1) (Cal.rhs (Cal.edges l)))).drop 1=intRows ((listOf (n+1) (Cal.rhs (Cal.edges l))).drop 1):=by unfold intRows;rw[List.map_drop]
     rw[hr1] at hrows
     have hrl:((listOf (n+1) (Cal.rhs (Cal.edges l))).drop 1).length=n:=by rw[List.length_drop,listOf_length];omega
     replace hrows:=Lib.hid hrows
     have hbw:=Lib.hid hI.out.bel
     have hDd:Hid (IntKind.i64.wrap (detF n (minorL 0 (matOf (n+1) (Cal.lap (Cal.edges l)))))=Cal.hD n l):=by
      show _=_
      have:detF n (minorL 0 (matOf (n+1) (Cal.lap (Cal.edges l))))=Cal.hD n l:=rfl
      rw[this]
      exact wrap_small (by omega) (by omega)
     have hNn:Hid (∀ i,IntKind.i64.wrap (detF n (withL i ((listOf (n+1) (Cal.rhs (Cal.edges l))).drop 1) (minorL 0 (matOf (n+1) (Cal.lap (Cal.edges l))))))=Cal.hN n l i):=fun i=>rfl
     generalize minorL 0 (matOf (n+1) (Cal.lap (Cal.edges l)))=M' at *
     generalize (listOf (n+1) (Cal.rhs (Cal.edges l))).drop 1=r1 at *
     obtain⟨hM1,hM2⟩:=hsq
     replace hM2:=Lib.hid hM2
     have hdet:=Lib.hid (fun A c vs w h1 h2=>det_any n A c M' vs w h1 hM1 h2 hM2.out (by omega))
     clear hM0 hMl hMr hrr hcut hr1 hI
     have hsm:∀ r∈M',r.length≤1000:=fun r hr=>by rw[hM2.out r hr];omega
     have hwi:Hid (∀ i A' c' us W,i<n→MatR W A' M' us→RowsAt W A1 1 (intRows r1)→Calls Tryz.prog 39 #[.slice A' n c',.int .i64 (i:Int),.slice A1 n c1] W fun e w'=>∃ A2 c2 us2,e=.returned (.slice A2 n c2)∧n≤c2∧MatR w' A2 (withL i r1 M') us2∧Below W.heap.size W w'):=fun i A' c' us W hi hR hr=>by
      have:=with_any A' A1 c' c1 M' us r1 i W hR ⟨by omega,hsm⟩ hr (by omega) (by omega) (fun r hr=>by rw[hM2.out r hr];exact hi)
      rw[hM1,hrl,←hrl,List.take_length,hrl] at this
      refine this.mono ?_
      rintro e w' ⟨v,us2,rfl,hO,hb'⟩
      obtain⟨A2,c2,rfl,hc2,hR2⟩:=hO.read
      have hl2:(withL i r1 M').length=n:=by unfold withL;rw[List.length_zipWith];omega
      rw[hl2] at hc2 ⊢
      exact⟨A2,c2,us2,rfl,hc2,hR2,hb'⟩
     have hdet2:Hid (∀ i A c vs w,i<n→MatR w A (withL i r1 M') vs→n≤c→Calls Tryz.prog 37 #[.slice A n c] w fun e w'=>e=.returned (.int .i64 (Cal.hN n l i))∧Below w.heap.size w w'):=fun i A c vs w hi h1 h2=>by
      have hl2:(withL i r1 M').length=n:=by unfold withL;rw[List.length_zipWith];omega
      have:=det_any n A c (withL i r1 M') vs w h1 hl2 h2 (fun r hr=>by
       unfold withL at hr
       obtain⟨j,hj,rfl⟩:=List.getElem_of_mem hr
       rw[List.getElem_zipWith]
       unfold putC
       rw[List.length_set]
       exact hM2.out _ (List.getElem_mem _)) (by omega)
      rw[hNn.out] at this
      exact this
     go_wp2_with fail
     refine wp_region_held_drew (S:=Sx wr []) (by kernel_rfl) (Sx.mk (cs_nil _) (Below.refl _ _)).drew (fun hHeld=>?_)
     refine tkHx 0 119 ?_
     refine tkHx 2 121 ?_
     refine tkHx 3 122 ?_
     (refine ratHx 1 (fun K hK=>?_);go_simp)
     refine (hwo.out _ hHeld.bel).mono ?_
     rintro e0 w5 ⟨A',c',us,rfl,hc',hMR,hb5⟩
     go_simp
     refine hK.out _ _ (hHeld.step hb5) (fun hHeld=>?_)
     clear hK K hb5
     (try simp only[apS,apN,siA,scZ,scS])
     refine tkHx 4 7 ?_
     refine tkHx 5 8 ?_
     refine wpAnyH_done (by kernel_rfl) ?_ _
     (try simp only[apS,apN,siA,scZ,scS])
     have hbx:=Lib.hid (hHeld.bel)
     have hMR:=Lib.hid hMR
     clear hHeld hwo hcut2
     go_wp2_with (go_at_call 37;refine (hdet.out A' c' us _ hMR.out hc').mono ?_;rintro e0 w6 ⟨rfl,hb6⟩;rw[hDd.out];replace hbx:=Lib.hid (hbx.out.trans (hb6.mono hbx.out.size));replace hMR:=Lib.hid (hMR.out.below hb6);clear hb6 hdet)
     have hB6:w.heap.size≤w6.heap.size:=(hbw.out.trans (hbx.out.mono hbw.out.size)).size
     have hO0:Hid (OwnL (w6.alloc (.cells #[.int .i64 0,.int .i64 1] 59)) w6.heap.size 59 2 (.slice (some ⟨w6.heap.size,0,none⟩) 1 1) (((0,1) :: (List.range 0).map (Cal.hAt n l)).map frR)):=by
      refine⟨World.ownsRow_lit w6 #[.int .i64 0,.int .i64 1] 1 (Nat.le_refl _) (by unfold maxLen;omega) rfl,fun r hr=>?_,fun r hr u hu=>?_⟩
      ·rw[List.mem_singleton.1 hr];rfl
      rw[List.mem_singleton.1 hr] at hu
      rcases List.mem_cons.1 hu with e | hu
      ·rw[e];rfl
      rw[List.mem_singleton.1 hu];rfl
     have hbY:Hid (Below w6.heap.size w6 (w6.alloc (.cells #[.int .i64 0,.int .i64 1] 59))):=below_alloc _ _
     have hMR6:=hMR
     have hr6:=Lib.hid (hrows.out.below hbx.out)
     have hbw6:Hid (Below w.heap.size w w6):=hbw.out.trans (hbx.out.mono hbw.out.size)
     clear hMR hrows hbw hbx hDd
     go_loopw [13,129] (fun ov i wz=>∃ (k:Nat) (v:Value),k≤n∧i=.int .i64 k∧ov=v∧Hid (OwnL wz w6.heap.size 59 2 v (((0,1) :: (List.range k).map (Cal.hAt n l)).map frR))∧Hid (Below w6.heap.size w6 wz)) (fun _ i _=>n-(intOf i).toNat)
     case atStart=>exact⟨0,_,Nat.zero_le _,rfl,rfl,hO0,hbY⟩
     case round =>
      clear hO0 hbY
      obtain⟨k,v,hk,rfl,rfl,hO,hb⟩:=hrel
      by_cases hlt:k<n
      ·have htk:=List.range_succ (n:=k)
       have hrow:Hid (((0,1) :: (List.range (k+1)).map (Cal.hAt n l)).map frR=(((0,1) :: (List.range k).map (Cal.hAt n l)).map frR) ++ [[.int .i64 (Cal.lowN (Cal.hN n l k) (Cal.hD n l)),.int .i64 (Cal.lowD (Cal.hN n l k) (Cal.hD n l))]]):=by
        show _=_
        rw[htk]
        simp[frR,Cal.hAt]
       have hol:(((0,1) :: (List.range k).map (Cal.hAt n l)).map frR).length≤10:=by simp;omega
       obtain⟨rows,hrows⟩:∃ rows,((0,1) :: (List.range k).map (Cal.hAt n l)).map frR=rows:=⟨_,rfl⟩
       rw[hrows] at hO hrow hol
       have hnr:=wrap_range (detF n (withL k r1 M'))
       rw[hNn.out] at hnr
       have hlow:=Lib.hid (fun W=>lowest_any (Cal.hN n l k) (Cal.hD n l) W hnr hDp.1 (by omega))
       have hw1:=Lib.hid (hwi.out k A' c' us wr hlt (hMR6.out.below hb.out) (hr6.out.below hb.out))
       have hd1:=Lib.hid (fun A c vs w h1 h2=>hdet2.out k A c vs w hlt h1 h2)
       clear htk hrows hnr
       go_wp2_with (first
        |(go_at_call 39;refine hw1.out.mono ?_;rintro e0 x1 ⟨A2,c2,us2,rfl,hc2,hM2',hbx1⟩;have hM3:=Lib.hid hM2';have hz1:=Lib.hid hbx1;clear hw1 hM2' hbx1)
        |(go_at_call 37;refine (hd1.out A2 c2 us2 _ hM3.out hc2).mono ?_;rintro e0 x2 ⟨rfl,hbx2⟩;have hz2:=Lib.hid (hz1.out.trans (hbx2.mono hz1.out.size));clear hbx2)
        |(go_at_call 38;refine (hlow.out _).mono ?_;rintro e0 x3 ⟨rfl,hbx3⟩;have hz3:=Lib.hid (hz2.out.trans (hbx3.mono hz2.out.size));clear hbx3;have hO3:=Lib.hid ((hO.out.below hz3.out).below (below_alloc x3 (.cells #[.int .i64 (Cal.lowN (Cal.hN n l k) (Cal.hD n l)),.int .i64 (Cal.lowD (Cal.hN n l k) (Cal.hD n l))] 59)));have hsrc:=Lib.hid (rowsAt_new x3 [.int .i64 (Cal.lowN (Cal.hN n l k) (Cal.hD n l)),.int .i64 (Cal.lowD (Cal.hN n l k) (Cal.hD n l))] 59))
        |(at_builtin;go_must (refine wpList_append_rows elemFr rfl _ _ rfl rfl rfl hO3.out hsrc.out rfl (fun r hr=>by rw[List.mem_singleton.1 hr];rfl) (fun r hr u hu=>by rw[List.mem_singleton.1 hr] at hu;rcases List.mem_cons.1 hu with e | hu;rw[e];rfl;rw[List.mem_singleton.1 hu];rfl) (by simp only[List.length_singleton];omega) (by decide) (by have h1:=hb.out.size;have h2:=hz3.out.size;simp;omega) ?_);intro v' x4 hown7 hg7 hob7))
       have hO4:Hid (OwnL x4 w6.heap.size 59 2 v' (((0,1) :: (List.range (k+1)).map (Cal.hAt n l)).map frR)):=by show OwnL _ _ _ _ _ _;rw[hrow.out];exact hown7
       have hw3:=hb.out.size
       have hb3:Below wr.heap.size wr (x3.alloc (.cells #[.int .i64 (Cal.lowN (Cal.hN n l k) (Cal.hD n l)),.int .i64 (Cal.lowD (Cal.hN n l k) (Cal.hD n l))] 59)):=below_step hz3.out (below_alloc _ _)
       have hb4:Hid (Below w6.heap.size w6 x4):=(hb.out.trans (hb3.mono hw3)).trans (grown_below hg7 (fun g e=>(OwnL.lt hO3.out g e).1) (by have h2:=hb3.size;omega))
       clear hown7 hg7 hob7 hO3 hz3 hz2 hz1 hM3 hlow hd1 hrow hsrc hb3
       go_wp2_with fail
       go_roundw
       case rel=>exact⟨k+1,_,by omega,by go_num,rfl,hO4,hb4⟩
       case measure=>simp[intOf];omega
      obtain rfl:k=n:=by omega
      go_wp2_with fail
      go_ret2
      exact⟨_,rfl,OwnL.less hO.out hB6,hbw6.out.trans (hb.out.mono hbw6.out.size)⟩
 rw[if_neg hz]
 replace hL:=Lib.hid hL
 go_enter Tryz.func15,Tryz.ntmps15
 go_wp2_with (go_at_call 35;refine (hck.out _ hb0.out).mono ?_;rintro e0 w1 ⟨rfl,hb1⟩;replace hz:=Lib.hid hz)
 ·go_ret2
  exact⟨_,rfl,OwnL.nil _ _ _ _,hb1⟩
 have h9:(Cal.netE N l != 0)=false:=by assumption
 exact absurd (by simpa using h9) hz.out
end Go.Proofs.YtoojdkaimhlcbaaGreat
namespace Go.Proofs.YtoojdkaimhlcbaaGreat
open Go Go.RowKit Go.Shelf
theorem wpListF_append_rows {F:Fence} {n0:Nat} {P:Program} {t e:TypeId} {m bytes:Nat} (el:Elem P t e m bytes) {w:World} {ops:Array Oper} {rest:List Oper} {o:Oper} {a:Act} {Q:Exit→Act→World→Prop} (hg:o.guard=none) (s x:Operand)
  (hop:o.op=Op.call { callee:=Callee.builtin Builtin.append,args:=#[s,x],argTypes:=#[t,t] }) {v:Value} {A:Option Addr} {n c:Nat} (hs:a.eval s=v) (hx:a.eval x=.slice A n c)
  {B:Nat} {rows:List (List Value)} (h:OwnL w B e m v rows) {rows2:List (List Value)} (h2:RowsAt w A m rows2) (hn:n=rows2.length) (hw:∀ r∈rows2,r.length=m) (h1:∀ r∈rows2,∀ u∈r,u.oneCell'=true)
  (h63:rows.length+rows2.length≤4000000000) (hby:bytes≤10000) (hbase:B≤w.heap.size)
  (hK:∀ v' w',OwnL w' B e m v' (rows ++ rows2)→w.grownBy w' v.ownBlock→(v'.ownBlock=v.ownBlock∨v'.ownBlock=some w.heap.size)→wpListIn F n0 P ops Q rest (a.put o.dst v') w'):wpListIn F n0 P ops Q (o :: rest) a w:=by
 refine wpListIn_plain hg fun K hK'=>?_
 obtain⟨v',w',hrun,h3,h4,h5⟩:=run_append_rows el o.type h h2 hn hw h1 h63 hby hbase
 unfold Oper.wpIn
 refine⟨?_,?_⟩
 ·simp[Oper.about,hop,resolve,Target.leads,Sem.run_pure]
 rw[Oper.semAt_plain F _ _ (by rw[hop];intro c hc';cases hc')]
 simp only[execOp,hop,resolve,invoke,builtin,Sem.run_bind,Sem.run_pure,Result.andThen_ok,List.map_toArray,List.map_cons,List.map_nil,hs,hx]
 rw[hrun]
 exact hK' _ _ (hK v' w' h3 h4 h5)
theorem OwnL.keptF {W W':World} {row:Option Nat} {B:Nat} {E:TypeId} {m:Nat} {v:Value} {rows:List (List Value)} (h:OwnL W B E m v rows) (hg:W.grownBy W' row) (hr:Others W row):OwnL W' B E m v rows:=by
 refine h.kept hg ?_
 rcases h.own.2 with ⟨rfl,_⟩ | ⟨g,cap,cur,rfl,_,hh,_⟩
 ·exact .inl rfl
 right
 intro e
 obtain⟨o,ho,hc⟩:=hr g (by rw[←e];rfl)
 rw[hh] at ho
 cases ho
 cases hc
theorem BoxAt.keptF {W W':World} {row:Option Nat} {B:Nat} {cs:List Value} (h:BoxAt W B cs) (hg:W.grownBy W' row) (hr:Others W row):BoxAt W' B cs :=
 ⟨fun j v hv=>cell_kept (h.range j v hv) hg hr,fun j hj=>by
  obtain⟨v,hv⟩:∃ v,cs[j]?=some v:=⟨_,List.getElem?_eq_getElem hj⟩
  have:=h.range j v hv
  rw[Nat.zero_add] at this
  exact (frozen_kept this hg hr).trans (h.free j hj),Nat.lt_of_lt_of_le h.lt hg.size⟩
theorem OwnL.keepsF {W W':World} {B:Nat} {E:TypeId} {m:Nat} {v:Value} {rows:List (List Value)} (h:OwnL W B E m v rows) (hg:W.grownBy W' v.ownBlock):KeepsOthers W W':=by
 refine KeepsOthers.of_grownBy hg fun j o e ho=>?_
 rcases h.own.2 with ⟨rfl,_⟩ | ⟨g,cap,cur,rfl,_,hh,_⟩
 ·cases e
 cases e
 rw[hh] at ho
 cases ho;rfl
theorem OwnL.offF {w:World} {B B':Nat} {E:TypeId} {m:Nat} {v:Value} {rows:List (List Value)} (h:OwnL w B E m v rows) (o:Nat) (u:Value) (hne:B'<B):OwnL (w.setCell ⟨B',o,none⟩ u) B E m v rows:=by
 refine OwnL.kept h (grown_set _ B' o _) ?_
 cases hv:v.ownBlock with
 | none=>exact .inl rfl
 | some g=>right;intro e;have:=(h.lt g hv).1;injection e with e;omega
theorem keepsF_below {W W':World} (hb:Below W.heap.size W W'):KeepsOthers W W':=KeepsOthers.of_grownBy (below_grown hb none) (fun j o e=>by cases e)
theorem belowF_put {w W:World} (h:Below w.heap.size w W) {D:Nat} (hD:w.heap.size≤D) (o:Obj):Below w.heap.size w (W.putObj D o) :=
 h.grown (grownBy_putObj' W D o) h.size (fun k e=>by cases e;exact hD)
end Go.Proofs.YtoojdkaimhlcbaaGreat
namespace Go.Proofs.YtoojdkaimhlcbaaGreat
open Go Go.RowKit
structure FromB (B:Nat) (W W':World):Prop where
 size:W.heap.size≤W'.heap.size
 same:∀ b,B≤b→b<W.heap.size→W'.heap[b]?=W.heap[b]?
def AbG (_:Nat) (X Y:World):Prop:=X.grownBy Y none
def SeqIx {α:Type} (F:Fence) (n:Nat) (P:Program) (g:Nat) (lb:Array Value) (encs:α→Array Value) (Ab Kp:Nat→World→World→Prop) (xs:List α) (w:World):Prop :=
 ∀ (l:Nat) (J Jx:Nat→World→Prop) (W:World),Below w.heap.size w W→(∀ k X Y,J k X→Ab W.heap.size X Y→J k Y)→(∀ k X Y,Jx k X→Ab W.heap.size X Y→Jx k Y) →
  (∀ k x W1,xs[k]?=some x→J k W1→YieldAt F (n-1) P l (encs x) W1 fun e W' =>
   (e=.returned (.bool true)∧J (k+1) W'∧Kp W.heap.size W1 W')∨(e=.returned (.bool false)∧Jx k W'∧Kp W.heap.size W1 W')) →
  J 0 W →
  CallsIn F n P g (#[.func (.yield l) #[] #[]] ++ lb) W fun e W'=>(∃ v,e=.returned v)∧(J xs.length W'∨∃ k,k<xs.length∧Jx k W')
theorem SeqIx.inRound {α:Type} {F:Fence} {n:Nat} {P:Program} {g:Nat} {lb:Array Value} {encs:α→Array Value} {Ab Kp:Nat→World→World→Prop} {xs:List α} {w:World} (l:Nat) (h:SeqIx F n P g lb encs Ab Kp xs w):SeqIx (F.inRound l) n P g lb encs Ab Kp xs w:=h
def ixPost (B:Nat) (Kp:World→World→Prop) (In:World→Prop) (Ix:Code→World→Prop) (W:World):Exit→Act→World→Prop
 | .normal,_,W'=>KeepsFrom B W W'∧Kp W W'∧In W'
 | .ret,_,W'=>KeepsFrom B W W'∧Kp W W'∧Ix .ret W'
 | .exit id,_,W'=>KeepsFrom B W W'∧Kp W W'∧Ix (.exit id) W'
 | .goto t,_,W'=>KeepsFrom B W W'∧Kp W W'∧Ix (.goto t) W'
 | .panic _,_,_=>False
 | .outgrown,_,_=>False
theorem FromB.refl (B:Nat) (W:World):FromB B W W:=⟨Nat.le_refl _,fun _ _ _=>rfl⟩
theorem FromB.trans {B:Nat} {X Y Z:World} (h:FromB B X Y) (k:FromB B Y Z):FromB B X Z:=⟨Nat.le_trans h.size k.size,fun b h1 h2=>(k.same b h1 (Nat.lt_of_lt_of_le h2 h.size)).trans (h.same b h1 h2)⟩
variable {F : Fence} {n : Nat} {P : Program} {w : World}
theorem wpIn_rangeFunc_ix {α:Type} {g:Operand} {ps:Array Tmp} {assign body:Code} {Q:Exit→Act→World→Prop} {a:Act} {w:World}
  (hro:F.round=none) (h1:1≤n) {gf:Nat} {lb:Array Value} (hg:a.eval g=.func (.func gf) #[] lb) (hFg:F.fn gf) (eg:∀ args w,(callFunc gf args).run P w=.ok (.enter gf args) w)
  {encs:α→Array Value} {Ab Kp:Nat→World→World→Prop} {xs:List α} {w0:World} (hseq:SeqIx F (n-1) P gf lb encs Ab Kp xs w0)
  (hAb:∀ (X Y:World) (k:Nat) (o:Obj),Ab (w.heap.size+1+1) X Y→k<w.heap.size+1+1→X.heap[k]?=some o→o.isCells=false→Y.heap[k]?=some o)
  (hKt:∀ {A B C:World},Kp (w.heap.size+1+1) A B→Kp (w.heap.size+1+1) B C→Kp (w.heap.size+1+1) A C) (hKb:∀ (W:World) (l:Nat) (o o':Obj),w.heap.size≤l→l<w.heap.size+1+1→W.heap[l]?=some o→o.isCells=false→o.isWalk=false→Kp (w.heap.size+1+1) W (W.putObj l o')) (hb0:Below w0.heap.size w0 w) (hps:∀ x,(encs x).size=ps.size)
  (I:Nat→World→Prop) (Ix:Code→Nat→World→Prop) (hI:OwnFrom w.heap.size I) (hIx:∀ c,OwnFrom w.heap.size (Ix c))
  (hIA:∀ k X Y,I k X→Ab (w.heap.size+1+1) X Y→I k Y) (hIxA:∀ c k X Y,Ix c k X→Ab (w.heap.size+1+1) X Y→Ix c k Y) (h0:I 0 w) (Ax:α→Act→World→Prop) (hAx:∀ x a',OwnFrom w.heap.size (fun (_:Unit) W=>Ax x a' W))
  (hassign:∀ (l:Nat) (k:Nat) (x:α) (W:World) (K:Act→World→Prop),xs[k]?=some x→I k W→(∀ a' W',KeepsFrom w.heap.size W W'→Kp (w.heap.size+1+1) W W'→I k W'→Ax x a' W'→K a' W') →
   assign.wpIn (F.inRound l) (n-1-1) P (Exit.then K (fun _ _ _=>False)) { tmps:=(ps.zip (encs x)).foldl (fun t (p,v)=>t.setIfInBounds p v) a.tmps,defers:=[] } W)
  (hbody:∀ (l:Nat) (k:Nat) (x:α) (a':Act) (W:World),w.heap.size≤l→(∃ r,W.heap[l]?=some (.loop r))→xs[k]?=some x→I k W→Ax x a' W→body.wpIn (F.inRound l) (n-1-1) P (ixPost w.heap.size (Kp (w.heap.size+1+1)) (I (k+1)) (fun c=>Ix c k) W) a' W)
  (hdone:∀ (D:Nat) (W:World),w.heap.size≤D→I xs.length W→W.heap[D]?=some (.deferred (some []))→Q .normal { a with defers:={ target:=.collected D,args:=#[] } :: a.defers } W)
  (hstop:∀ (D:Nat) (c:Code) (k:Nat) (W:World),w.heap.size≤D→k<xs.length→Ix c k W→W.heap[D]?=some (.deferred (some []))→c.wpIn F n P Q { a with defers:={ target:=.collected D,args:=#[] } :: a.defers } W) :
  (Code.rangeFunc g ps assign body).wpIn F n P Q a w:=by
 refine wpIn_rangeFunc ?_
 intro fn hfn
 rw[hro]
 obtain⟨rec,hrec⟩:∃ rec:LoopState→Option Code→Loop,rec=fun st pe=>{ state:=st,pending:=pe,fn,tmps:=a.tmps,params:=ps,assign,body,defers:=w.heap.size }:=⟨_,rfl⟩
 obtain⟨W1,hW1⟩:∃ W1,(w.alloc (.deferred (some []))).alloc (.loop (rec .ready none))=W1:=⟨_,rfl⟩
 have hL1:W1.heap[w.heap.size+1]?=some (.loop (rec .ready none)):=by
  rw[←hW1];have:=World.alloc_heap_new (w.alloc (.deferred (some []))) (.loop (rec .ready none));rwa [World.size_alloc] at this
 have hK1:W1.heap[w.heap.size]?=some (.deferred (some [])):=by
  rw[←hW1];exact (Below.heap_alloc _ _ _ (by simp)).trans (World.alloc_heap_new w _)
 have hI1:I 0 W1:=by rw[←hW1];exact hI.alloc _ (hI.alloc _ h0)
 have hb1:Below w0.heap.size w0 W1:=by
  rw[←hW1];exact hb0.trans ((((Below.refl _ w).alloc (Nat.le_refl _) _).alloc (by simp) _).mono hb0.size)
 refine⟨w.heap.size+1,[{ target:=.collected w.heap.size,args:=#[] }],W1,{ target:=.fn (.func gf) lb,args:=#[.func (.yield (w.heap.size+1)) #[] #[]] },W1,gf,
  #[.func (.yield (w.heap.size+1)) #[] #[]] ++ lb,W1,?_,?_,?_,?_,fun _=>h1,?_⟩
 ·rw[←hW1,hrec];exact run_enterLoop_outer _ _ _ _ _
 ·simp only[resolve,hg]
  simp[go_sem]
 ·intro f' hf';simp[Target.leads] at hf';subst hf';exact hFg
 ·simp[invoke,go_sem,eg]
 -- THE ITERATOR's CONTRACT,AT THE CALLER's INVARIANT WITH THE TWO FACTS OF BOOK-KEEPING BESIDE IT
 have hsz1:W1.heap.size=w.heap.size+1+1:=by rw[←hW1];simp
 rw[←hsz1] at hAb hIA hIxA hKt hKb
 refine (hseq (w.heap.size+1)
  (fun k W=>I k W∧W.heap[w.heap.size+1]?=some (.loop (rec .ready none))∧W.heap[w.heap.size]?=some (.deferred (some [])))
  (fun k W=>∃ c,Ix c k W∧W.heap[w.heap.size+1]?=some (.loop (rec .done (some c)))∧W.heap[w.heap.size]?=some (.deferred (some [])))
  W1 hb1
  (fun k A B hs hab=>⟨hIA k A B hs.1 hab,hAb A B _ _ hab (by rw[hsz1];omega) hs.2.1 rfl,hAb A B _ _ hab (by rw[hsz1];omega) hs.2.2 rfl⟩)
  (fun k A B hs hab=>by
   obtain⟨c,hc,hl,hk⟩:=hs
   exact⟨c,hIxA c k A B hc hab,hAb A B _ _ hab (by rw[hsz1];omega) hl rfl,hAb A B _ _ hab (by rw[hsz1];omega) hk rfl⟩)
  ?_ ⟨hI1,hL1,hK1⟩).mono ?_
 ·-- ONE ROUND
  rintro k x W hx ⟨hi,hl,hk⟩
  have hlt:w.heap.size+1<W.heap.size:=(Array.getElem?_eq_some_iff.1 hl).1
  have hy:=run_yield (P:=P) (args:=encs x) hl (by rw[hrec];exact hps x)
  rw[hrec] at hy
  refine⟨fn,_,assign,body,hy,roundIn_of_wpIn hfn (hassign _ k x W _ hx hi ?_)⟩
  clear hy
  intro a' Wa hkfa hkpa hia hax
  rw[←hsz1] at hkpa
  replace hl:=hkfa.same _ _ (by omega) hl rfl
  replace hk:=hkfa.same _ _ (Nat.le_refl _) hk rfl
  replace hlt:w.heap.size+1<Wa.heap.size:=(Array.getElem?_eq_some_iff.1 hl).1
  replace hi:=hia
  clear hia
  revert hkpa hkfa
  generalize W=Wb
  intro hkfa hkpa
  obtain⟨W,rfl⟩:∃ W,W=Wa:=⟨_,rfl⟩
  refine⟨_,run_beginRound hl (by rw[hrec]),?_⟩
  have hl2:(W.putObj (w.heap.size+1) (.loop { rec .ready none with state:=.busy })).heap[w.heap.size+1]?=some (.loop { rec .ready none with state:=.busy }):=World.putObj_heap_same hlt
  have hk2:(W.putObj (w.heap.size+1) (.loop { rec .ready none with state:=.busy })).heap[w.heap.size]?=some (.deferred (some [])):=(World.putObj_heap_other (by omega)).trans hk
  have hw2:Kp W1.heap.size W (W.putObj (w.heap.size+1) (.loop { rec .ready none with state:=.busy })):=hKb _ _ _ _ (by omega) (by rw[hsz1];omega) hl rfl rfl
  refine wpIn_mono (hbody _ k x a' _ (by omega) ⟨_,hl2⟩ hx (hI.putObj _ hi (by omega) hl rfl) ((hAx x a').putObj (s:=()) _ hax (by omega) hl rfl)) ?_
  have fin:∀ (jump:Option Code) (Wz:World),KeepsFrom w.heap.size (W.putObj (w.heap.size+1) (.loop { rec .ready none with state:=.busy })) Wz →
    (Instr.endRound (w.heap.size+1) jump).run P Wz=.ok (.bool jump.isNone) (Wz.putObj (w.heap.size+1) (.loop (rec (if jump.isNone then .ready else .done) jump))) ∧
    Wz.heap[w.heap.size+1]?=some (.loop { rec .ready none with state:=.busy }) ∧
    (Wz.putObj (w.heap.size+1) (.loop (rec (if jump.isNone then .ready else .done) jump))).heap[w.heap.size+1]?=some (.loop (rec (if jump.isNone then .ready else .done) jump)) ∧
    (Wz.putObj (w.heap.size+1) (.loop (rec (if jump.isNone then .ready else .done) jump))).heap[w.heap.size]?=some (.deferred (some [])):=fun jump Wz hk3=>by
   have hl3:=hk3.same _ _ (by omega) hl2 rfl
   have:=run_endRound (P:=P) jump hl3
   rw[hrec] at this ⊢
   exact⟨this,by rw[hrec] at hl3;exact hl3,World.putObj_heap_same (Array.getElem?_eq_some_iff.1 hl3).1,(World.putObj_heap_other (by omega)).trans (hk3.same _ _ (Nat.le_refl _) hk2 rfl)⟩
  rintro e a3 Wz hp
  cases e with
  | normal =>
   obtain⟨hk3,hkp3,hi3⟩:=hp
   obtain⟨hr,hl3,hl4,hk4⟩:=fin none Wz hk3
   exact⟨_,_,hr,.inl ⟨rfl,⟨hI.putObj _ hi3 (by omega) hl3 rfl,hl4,hk4⟩,hKt hkpa (hKt (hKt hw2 (by rw[hsz1];exact hkp3)) (hKb _ _ _ _ (by omega) (by rw[hsz1];omega) hl3 rfl rfl))⟩⟩
  | ret =>
   obtain⟨hk3,hkp3,hi3⟩:=hp
   obtain⟨hr,hl3,hl4,hk4⟩:=fin (some .ret) Wz hk3
   exact⟨_,_,hr,.inr ⟨rfl,⟨.ret,(hIx _).putObj _ hi3 (by omega) hl3 rfl,hl4,hk4⟩,hKt hkpa (hKt (hKt hw2 (by rw[hsz1];exact hkp3)) (hKb _ _ _ _ (by omega) (by rw[hsz1];omega) hl3 rfl rfl))⟩⟩
  | exit id =>
   obtain⟨hk3,hkp3,hi3⟩:=hp
   obtain⟨hr,hl3,hl4,hk4⟩:=fin (some (.exit id)) Wz hk3
   exact⟨_,_,hr,.inr ⟨rfl,⟨.exit id,(hIx _).putObj _ hi3 (by omega) hl3 rfl,hl4,hk4⟩,hKt hkpa (hKt (hKt hw2 (by rw[hsz1];exact hkp3)) (hKb _ _ _ _ (by omega) (by rw[hsz1];omega) hl3 rfl rfl))⟩⟩
  | goto t =>
   obtain⟨hk3,hkp3,hi3⟩:=hp
   obtain⟨hr,hl3,hl4,hk4⟩:=fin (some (.goto t)) Wz hk3
   exact⟨_,_,hr,.inr ⟨rfl,⟨.goto t,(hIx _).putObj _ hi3 (by omega) hl3 rfl,hl4,hk4⟩,hKt hkpa (hKt (hKt hw2 (by rw[hsz1];exact hkp3)) (hKb _ _ _ _ (by omega) (by rw[hsz1];omega) hl3 rfl rfl))⟩⟩
  | panic ch=>exact hp.elim
  | outgrown=>exact hp.elim
 -- BEHIND THE ITERATOR
 rintro e W2 ⟨⟨v,rfl⟩,(⟨hi,hl,hk⟩ | ⟨k,hSp,c,hi,hl,hk⟩)⟩
 ·exact⟨none,_,by have:=run_endLoop (P:=P) hl (by rw[hrec];simp);rw[hrec] at this;exact this,hdone _ _ (Nat.le_refl _) (hI.putObj _ hi (by omega) hl rfl) ((World.putObj_heap_other (by omega)).trans hk)⟩
 exact⟨some c,_,by have:=run_endLoop (P:=P) hl (by rw[hrec];simp);rw[hrec] at this;exact this,hstop _ c k _ (Nat.le_refl _) hSp ((hIx c).putObj _ hi (by omega) hl rfl) ((World.putObj_heap_other (by omega)).trans hk)⟩
theorem wpIn_rangeFunc_ixN {α:Type} {g:Operand} {ps:Array Tmp} {assign body:Code} {Q:Exit→Act→World→Prop} {a:Act} {w:World}
  {l₀:Nat} {r₀:Loop} (hro:F.round=some l₀) (hl₀:w.heap[l₀]?=some (.loop r₀)) (h1:1≤n) {gf:Nat} {lb:Array Value} (hg:a.eval g=.func (.func gf) #[] lb) (hFg:F.fn gf) (eg:∀ args w,(callFunc gf args).run P w=.ok (.enter gf args) w)
  {encs:α→Array Value} {Ab Kp:Nat→World→World→Prop} {xs:List α} {w0:World} (hseq:SeqIx F (n-1) P gf lb encs Ab Kp xs w0)
  (hAb:∀ (X Y:World) (k:Nat) (o:Obj),Ab (w.heap.size+1) X Y→k<w.heap.size+1→X.heap[k]?=some o→o.isCells=false→Y.heap[k]?=some o)
  (hKt:∀ {A B C:World},Kp (w.heap.size+1) A B→Kp (w.heap.size+1) B C→Kp (w.heap.size+1) A C) (hKb:∀ (W:World) (l:Nat) (o o':Obj),w.heap.size≤l→l<w.heap.size+1→W.heap[l]?=some o→o.isCells=false→o.isWalk=false→Kp (w.heap.size+1) W (W.putObj l o')) (hb0:Below w0.heap.size w0 w) (hps:∀ x,(encs x).size=ps.size)
  (I:Nat→World→Prop) (Ix:Code→Nat→World→Prop) (hI:OwnFrom w.heap.size I) (hIx:∀ c,OwnFrom w.heap.size (Ix c))
  (hIA:∀ k X Y,I k X→Ab (w.heap.size+1) X Y→I k Y) (hIxA:∀ c k X Y,Ix c k X→Ab (w.heap.size+1) X Y→Ix c k Y) (h0:I 0 w) (Ax:α→Act→World→Prop) (hAx:∀ x a',OwnFrom w.heap.size (fun (_:Unit) W=>Ax x a' W))
  (hassign:∀ (l:Nat) (k:Nat) (x:α) (W:World) (K:Act→World→Prop),xs[k]?=some x→I k W→(∀ a' W',KeepsFrom w.heap.size W W'→Kp (w.heap.size+1) W W'→I k W'→Ax x a' W'→K a' W') →
   assign.wpIn (F.inRound l) (n-1-1) P (Exit.then K (fun _ _ _=>False)) { tmps:=(ps.zip (encs x)).foldl (fun t (p,v)=>t.setIfInBounds p v) a.tmps,defers:=[] } W)
  (hbody:∀ (l:Nat) (k:Nat) (x:α) (a':Act) (W:World),w.heap.size≤l→(∃ r,W.heap[l]?=some (.loop r))→xs[k]?=some x→I k W→Ax x a' W→body.wpIn (F.inRound l) (n-1-1) P (ixPost w.heap.size (Kp (w.heap.size+1)) (I (k+1)) (fun c=>Ix c k) W) a' W)
  (hdone:∀ (W:World),I xs.length W→Q .normal a W)
  (hstop:∀ (c:Code) (k:Nat) (W:World),k<xs.length→Ix c k W→c.wpIn F n P Q a W) :
  (Code.rangeFunc g ps assign body).wpIn F n P Q a w:=by
 refine wpIn_rangeFunc ?_
 intro fn hfn
 rw[hro]
 obtain⟨rec,hrec⟩:∃ rec:LoopState→Option Code→Loop,rec=fun st pe=>{ state:=st,pending:=pe,fn,tmps:=a.tmps,params:=ps,assign,body,defers:=r₀.defers }:=⟨_,rfl⟩
 obtain⟨W1,hW1⟩:∃ W1,w.alloc (.loop (rec .ready none))=W1:=⟨_,rfl⟩
 have hL1:W1.heap[w.heap.size]?=some (.loop (rec .ready none)):=by rw[←hW1];exact World.alloc_heap_new w _
 have hI1:I 0 W1:=by rw[←hW1];exact hI.alloc _ h0
 have hb1:Below w0.heap.size w0 W1:=by
  rw[←hW1];exact hb0.trans (((Below.refl _ w).alloc (Nat.le_refl _) _).mono hb0.size)
 refine⟨w.heap.size,[],W1,{ target:=.fn (.func gf) lb,args:=#[.func (.yield w.heap.size) #[] #[]] },W1,gf,
  #[.func (.yield w.heap.size) #[] #[]] ++ lb,W1,?_,?_,?_,?_,fun _=>h1,?_⟩
 ·rw[←hW1,hrec];exact run_enterLoop_inner hl₀ _ _ _ _ _
 ·simp only[resolve,hg]
  simp[go_sem]
 ·intro f' hf';simp[Target.leads] at hf';subst hf';exact hFg
 ·simp[invoke,go_sem,eg]
 have hsz1:W1.heap.size=w.heap.size+1:=by rw[←hW1];simp
 rw[←hsz1] at hAb hIA hIxA hKt hKb
 refine (hseq w.heap.size
  (fun k W=>I k W∧W.heap[w.heap.size]?=some (.loop (rec .ready none)))
  (fun k W=>∃ c,Ix c k W∧W.heap[w.heap.size]?=some (.loop (rec .done (some c))))
  W1 hb1
  (fun k A B hs hab=>⟨hIA k A B hs.1 hab,hAb A B _ _ hab (by rw[hsz1];omega) hs.2 rfl⟩)
  (fun k A B hs hab=>by
   obtain⟨c,hc,hl⟩:=hs
   exact⟨c,hIxA c k A B hc hab,hAb A B _ _ hab (by rw[hsz1];omega) hl rfl⟩)
  ?_ ⟨hI1,hL1⟩).mono ?_
 ·-- ONE ROUND
  rintro k x W hx ⟨hi,hl⟩
  have hlt:w.heap.size<W.heap.size:=(Array.getElem?_eq_some_iff.1 hl).1
  have hy:=run_yield (P:=P) (args:=encs x) hl (by rw[hrec];exact hps x)
  rw[hrec] at hy
  refine⟨fn,_,assign,body,hy,roundIn_of_wpIn hfn (hassign _ k x W _ hx hi ?_)⟩
  clear hy
  intro a' Wa hkfa hkpa hia hax
  rw[←hsz1] at hkpa
  replace hl:=hkfa.same _ _ (Nat.le_refl _) hl rfl
  replace hlt:w.heap.size<Wa.heap.size:=(Array.getElem?_eq_some_iff.1 hl).1
  replace hi:=hia
  clear hia
  revert hkpa hkfa
  generalize W=Wb
  intro hkfa hkpa
  obtain⟨W,rfl⟩:∃ W,W=Wa:=⟨_,rfl⟩
  refine⟨_,run_beginRound hl (by rw[hrec]),?_⟩
  have hl2:(W.putObj w.heap.size (.loop { rec .ready none with state:=.busy })).heap[w.heap.size]?=some (.loop { rec .ready none with state:=.busy }):=World.putObj_heap_same hlt
  have hw2:Kp W1.heap.size W (W.putObj w.heap.size (.loop { rec .ready none with state:=.busy })):=hKb _ _ _ _ (Nat.le_refl _) (by rw[hsz1];omega) hl rfl rfl
  refine wpIn_mono (hbody _ k x a' _ (Nat.le_refl _) ⟨_,hl2⟩ hx (hI.putObj _ hi (Nat.le_refl _) hl rfl) ((hAx x a').putObj (s:=()) _ hax (Nat.le_refl _) hl rfl)) ?_
  have fin:∀ (jump:Option Code) (Wz:World),KeepsFrom w.heap.size (W.putObj w.heap.size (.loop { rec .ready none with state:=.busy })) Wz →
    (Instr.endRound w.heap.size jump).run P Wz=.ok (.bool jump.isNone) (Wz.putObj w.heap.size (.loop (rec (if jump.isNone then .ready else .done) jump))) ∧
    Wz.heap[w.heap.size]?=some (.loop { rec .ready none with state:=.busy }) ∧
    (Wz.putObj w.heap.size (.loop (rec (if jump.isNone then .ready else .done) jump))).heap[w.heap.size]?=some (.loop (rec (if jump.isNone then .ready else .done) jump)):=fun jump Wz hk3=>by
   have hl3:=hk3.same _ _ (Nat.le_refl _) hl2 rfl
   have:=run_endRound (P:=P) jump hl3
   rw[hrec] at this ⊢
   exact⟨this,by rw[hrec] at hl3;exact hl3,World.putObj_heap_same (Array.getElem?_eq_some_iff.1 hl3).1⟩
  rintro e a3 Wz hp
  cases e with
  | normal =>
   obtain⟨hk3,hkp3,hi3⟩:=hp
   obtain⟨hr,hl3,hl4⟩:=fin none Wz hk3
   exact⟨_,_,hr,.inl ⟨rfl,⟨hI.putObj _ hi3 (Nat.le_refl _) hl3 rfl,hl4⟩,hKt hkpa (hKt (hKt hw2 (by rw[hsz1];exact hkp3)) (hKb _ _ _ _ (Nat.le_refl _) (by rw[hsz1];omega) hl3 rfl rfl))⟩⟩
  | ret =>
   obtain⟨hk3,hkp3,hi3⟩:=hp
   obtain⟨hr,hl3,hl4⟩:=fin (some .ret) Wz hk3
   exact⟨_,_,hr,.inr ⟨rfl,⟨.ret,(hIx _).putObj _ hi3 (Nat.le_refl _) hl3 rfl,hl4⟩,hKt hkpa (hKt (hKt hw2 (by rw[hsz1];exact hkp3)) (hKb _ _ _ _ (Nat.le_refl _) (by rw[hsz1];omega) hl3 rfl rfl))⟩⟩
  | exit id =>
   obtain⟨hk3,hkp3,hi3⟩:=hp
   obtain⟨hr,hl3,hl4⟩:=fin (some (.exit id)) Wz hk3
   exact⟨_,_,hr,.inr ⟨rfl,⟨.exit id,(hIx _).putObj _ hi3 (Nat.le_refl _) hl3 rfl,hl4⟩,hKt hkpa (hKt (hKt hw2 (by rw[hsz1];exact hkp3)) (hKb _ _ _ _ (Nat.le_refl _) (by rw[hsz1];omega) hl3 rfl rfl))⟩⟩
  | goto t =>
   obtain⟨hk3,hkp3,hi3⟩:=hp
   obtain⟨hr,hl3,hl4⟩:=fin (some (.goto t)) Wz hk3
   exact⟨_,_,hr,.inr ⟨rfl,⟨.goto t,(hIx _).putObj _ hi3 (Nat.le_refl _) hl3 rfl,hl4⟩,hKt hkpa (hKt (hKt hw2 (by rw[hsz1];exact hkp3)) (hKb _ _ _ _ (Nat.le_refl _) (by rw[hsz1];omega) hl3 rfl rfl))⟩⟩
  | panic ch=>exact hp.elim
  | outgrown=>exact hp.elim
 -- BEHIND THE ITERATOR
 rintro e W2 ⟨⟨v,rfl⟩,(⟨hi,hl⟩ | ⟨k,hSp,c,hi,hl⟩)⟩
 ·exact⟨none,_,by have:=run_endLoop (P:=P) hl (by rw[hrec];simp);rw[hrec] at this;exact this,hdone _ (hI.putObj _ hi (Nat.le_refl _) hl rfl)⟩
 exact⟨some c,_,by have:=run_endLoop (P:=P) hl (by rw[hrec];simp);rw[hrec] at this;exact this,hstop c k _ hSp ((hIx c).putObj _ hi (Nat.le_refl _) hl rfl)⟩
end Go.Proofs.YtoojdkaimhlcbaaGreat
