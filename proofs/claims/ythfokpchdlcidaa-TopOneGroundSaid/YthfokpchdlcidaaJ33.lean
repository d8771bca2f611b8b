/- What the statements rest on: definitions and walks, part 33. -/
import Derived.Test.YthfokpchdlcidaaJ32
set_option maxRecDepth 100000
set_option maxHeartbeats 16000000
set_option linter.unusedSimpArgs false
set_option linter.unusedVariables false
namespace Go.Proofs.Ythfokpchdlcidaa
open Go Go.RowKit Go.Shelf
theorem levSize : (Try.prog.info? 75).map (·.size) = some 4:=by kernel_rfl
theorem storeC {P : Program} {ops : Array Oper} {Q : Exit → Act → World → Prop} {md : Region.Mode} {S : World → Prop} (i : Nat) {op : Oper} {fuel : Nat} {listed : Array Bool} {a : Act} {w : World} (ty : TypeId) (e f : Operand) (b o : Nat) (cells : Array Value)
  (hr : Region.ready md ops listed = [i]) (ho : ops[i]? = some op) (hst : op.op = .store ty e f) (hw : Region.wanted op (yielded ops a.tmps) = true)
  (hx : a.eval e = .pointer (some ⟨b,o,none⟩)) (hy : a.eval f = .agg cells) (ht : w.there b o cells.size) (hi : (P.info? ty).map (·.size) = some cells.size) (h1 : cells.all (·.oneCell') = true)
  (hS : S (w.setCells b o cells.toList)) (h : S (w.setCells b o cells.toList) → wpAnyH P md ops Q S fuel (listed.setIfInBounds i true) (a.put op.dst undef) (w.setCells b o cells.toList)) : wpAnyH P md ops Q S (fuel + 1) listed a w :=
 wpAnyH_ready (rs:=[i]) hr (by simp) (AllReadyH.cons ho (fun K hK=>by
  rw [if_pos hw]
  exact wp_store_mid ty e f hst b o cells hx hy ht hi h1 (hK.out _ _ hS h)) AllReadyH.nil)
theorem stepG_any (l : List Lev) (A : Option Addr) (c : Nat) (n : Int) (B : Nat) (w : World) (hB : w.cell? ⟨B,0,none⟩ = some (.slice A l.length c)) (hBl : B < w.heap.size) (hL : Levs w A l) (hv : ∀ x ∈ l,-100000 ≤ x.d ∧ x.d ≤ 100000) (hbad : Cal.badL l n = false) :
  Calls Try.prog 64 #[.int .i64 n,.pointer (some ⟨B,0,none⟩)] w fun e w'=>e = .returned (.agg #[.int .i64 (Cal.stepL l n).f,.int .i64 (Cal.stepL l n).t,.int .i64 (Cal.stepL l n).d,.int .i64 (Cal.stepL l n).w]) ∧ Below w.heap.size w w':=by
 obtain ⟨k,x,hk,hn1,hlt,hx,he⟩:=Cal.stepL_mem hbad
 have hsz:=hL.size
 have hxd:=hv x (List.mem_of_getElem? hx)
 have hz:=Lib.hid (BoxAt.new w #[.int .i64 0,.int .i64 0,.int .i64 0,.int .i64 0] 75)
 have hb:=Lib.hid (below_alloc w (.cells #[.int .i64 0,.int .i64 0,.int .i64 0,.int .i64 0] 75))
 have hB1:=(hb.out.cell (p:=⟨B,0,none⟩) hBl).trans hB
 obtain ⟨b,o,rfl,hbl,c0,c1,c2,c3⟩:=lev_at (hL.below hb.out).rows hx
 have hsize:=Lib.hid (fun W=>size_any n W (by omega) (by omega))
 have hk1 : IntKind.u64.wrap ((n.natAbs : Int) - 1) = (k : Int):=by rw [wrap_u64];omega
 have hki : (k : Int) < (l.length : Int):=by omega
 obtain ⟨xf,xt,xd,xw⟩:=x
 dsimp only at *
 have hng : IntKind.i64.wrap (-xd) = -xd:=wrap_small (by omega) (by omega)
 generalize hna : n.natAbs = na at *
 replace he:=Lib.hid he
 clear hx hv hL hB hbad hxd hk hn1 hna
 go_enter Try.func64,Try.ntmps64
 go_wp2_with fail
 generalize hW1 : w.alloc (.cells #[.int .i64 0,.int .i64 0,.int .i64 0,.int .i64 0] 75) = W1 at *
 have hRl : w.heap.size < W1.heap.size:=by rw [← hW1];simp
 clear hW1
 have hBs:=hb.out.size
 go_cut [4] from 4 to 10 (fun x4 wc=>x4 = .pointer (some ⟨W1.heap.size,0,none⟩) ∧ Hid (BoxAt wc W1.heap.size [.int .i64 xf,.int .i64 xt,.int .i64 xd,.int .i64 xw]) ∧ Hid (BoxAt wc w.heap.size [.int .i64 0,.int .i64 0,.int .i64 0,.int .i64 0]) ∧ Hid (Below w.heap.size w wc))
 case first =>
  refine wp_region_held_drew (S:=Sx W1 [(B,0,.slice (some ⟨b,o,none⟩) l.length c),(b,o + k * 4,.int .i64 xf),(b,o + k * 4 + 1,.int .i64 xt),(b,o + k * 4 + 2,.int .i64 xd),(b,o + k * 4 + 3,.int .i64 xw)]) (by kernel_rfl) (Sx.mk (by simp only [cs_iff_cons];exact ⟨hB1,c0,c1,c2,c3,cs_nil _⟩) (Below.refl _ _)).drew (fun hHeld=>?_)
  clear hB1 c0 c1 c2 c3
  have hbl2 : ∀ x ∈ [(B,0,Value.slice (some ⟨b,o,none⟩) l.length c),(b,o + k * 4,.int .i64 xf),(b,o + k * 4 + 1,.int .i64 xt),(b,o + k * 4 + 2,.int .i64 xd),(b,o + k * 4 + 3,.int .i64 xw)],x.1 < W1.heap.size:=by
   intro x hx
   simp only [List.mem_cons,List.not_mem_nil,or_false] at hx
   rcases hx with rfl | rfl | rfl | rfl | rfl <;> dsimp only <;> omega
  have hbl3:=Lib.hid hbl2
  clear hbl2
  replace hz:=Lib.hid (hz.out.below (Below.refl _ _).drew)
  replace hb:=Lib.hid hb.out.drew
  replace hRl : w.heap.size < W1.drew.heap.size:=hRl
  have hsz1 : Hid (W1.drew.heap.size = W1.heap.size):=rfl
  generalize W1.drew = W2 at *
  refine tkHx 0 5 ?_
  refine tkHx 1 6 ?_
  (refine wpAnyH_ready (rs:=[2,6]) (by decide +kernel) (by simp) ?_;refine AllReadyH.cons rfl (fun K hK=>?_) (AllReadyH.cons rfl (fun K hK=>?_) AllReadyH.nil))
  ·(rw [if_pos (by kernel_rfl)];go_simp)
   refine (hsize.out _).mono ?_
   rintro e0 w3 ⟨rfl,rfl⟩
   go_simp
   (refine hK.out _ _ hHeld (fun hHeld=>?_);clear hK K;(try simp only [apS,apN,siA,scZ,scS]))
   refine tkHx 3 8 ?_
   refine tkHx 4 9 ?_
   refine tkHx 5 10 ?_
   (refine ratHx 6 (fun K hK=>?_);go_simp)
   refine hK.out _ _ (hHeld.alloc _) (fun hHeld=>?_)
   clear hK K
   (try simp only [apS,apN,siA,scZ,scS])
   have hx0:=Lib.hid (BoxAt.new W2 #[.int .i64 0,.int .i64 0,.int .i64 0,.int .i64 0] 75)
   have hz0:=Lib.hid (hz.out.alloc (.cells #[.int .i64 0,.int .i64 0,.int .i64 0,.int .i64 0] 75))
   have hb0:=Lib.hid (below_step hb.out (below_alloc W2 (.cells #[.int .i64 0,.int .i64 0,.int .i64 0,.int .i64 0] 75)))
   (try simp only [apS,apN,siA,scZ,scS])
   refine storeC 7 75 (.tmp 4) (.tmp 10) W2.heap.size 0 #[.int .i64 xf,.int .i64 xt,.int .i64 xd,.int .i64 xw] (by decide +kernel) (by exact rfl) (by exact rfl) (by kernel_rfl) (by rfl) (by rfl) (by exact hx0.out.there) levSize (by kernel_rfl) (hHeld.putC (by rw [hsz1.out];exact Nat.le_refl _) hbl3.out) (fun hHeld=>?_)
   (try simp only [apS,apN,siA,scZ,scS])
   refine wpAnyH_done (by kernel_rfl) ?_ _
   have hx5:=Lib.hid (hx0.out.put [.int .i64 xf,.int .i64 xt,.int .i64 xd,.int .i64 xw] rfl)
   have hz5:=Lib.hid (hz0.out.aside (B':=W2.heap.size) [.int .i64 xf,.int .i64 xt,.int .i64 xd,.int .i64 xw] (Nat.ne_of_lt hRl))
   have hb5:=Lib.hid (below_of_grownB hb0.out (grown_setCells W2.heap.size [.int .i64 xf,.int .i64 xt,.int .i64 xd,.int .i64 xw] 0 _) (Nat.le_of_lt hRl))
   clear hHeld hx0 hz0 hb0 hz hb hbl3 hBs hsize hk1 hki
   go_wp2_with fail
   go_meet
   case rel=>exact ⟨by rw [← hsz1.out],by rw [← hsz1.out];exact hx5,hz5,hb5⟩
  ·(rw [if_pos (by kernel_rfl)];go_simp)
   refine hK.out _ _ (hHeld.alloc _) (fun hHeld=>?_)
   clear hK K
   (try simp only [apS,apN,siA,scZ,scS])
   (refine ratHx 2 (fun K hK=>?_);go_simp)
   refine (hsize.out _).mono ?_
   rintro e0 w3 ⟨rfl,rfl⟩
   go_simp
   (refine hK.out _ _ hHeld (fun hHeld=>?_);clear hK K;(try simp only [apS,apN,siA,scZ,scS]))
   refine tkHx 3 8 ?_
   refine tkHx 4 9 ?_
   refine tkHx 5 10 ?_
   have hx0:=Lib.hid (BoxAt.new W2 #[.int .i64 0,.int .i64 0,.int .i64 0,.int .i64 0] 75)
   have hz0:=Lib.hid (hz.out.alloc (.cells #[.int .i64 0,.int .i64 0,.int .i64 0,.int .i64 0] 75))
   have hb0:=Lib.hid (below_step hb.out (below_alloc W2 (.cells #[.int .i64 0,.int .i64 0,.int .i64 0,.int .i64 0] 75)))
   (try simp only [apS,apN,siA,scZ,scS])
   refine storeC 7 75 (.tmp 4) (.tmp 10) W2.heap.size 0 #[.int .i64 xf,.int .i64 xt,.int .i64 xd,.int .i64 xw] (by decide +kernel) (by exact rfl) (by exact rfl) (by kernel_rfl) (by rfl) (by rfl) (by exact hx0.out.there) levSize (by kernel_rfl) (hHeld.putC (by rw [hsz1.out];exact Nat.le_refl _) hbl3.out) (fun hHeld=>?_)
   (try simp only [apS,apN,siA,scZ,scS])
   refine wpAnyH_done (by kernel_rfl) ?_ _
   have hx5:=Lib.hid (hx0.out.put [.int .i64 xf,.int .i64 xt,.int .i64 xd,.int .i64 xw] rfl)
   have hz5:=Lib.hid (hz0.out.aside (B':=W2.heap.size) [.int .i64 xf,.int .i64 xt,.int .i64 xd,.int .i64 xw] (Nat.ne_of_lt hRl))
   have hb5:=Lib.hid (below_of_grownB hb0.out (grown_setCells W2.heap.size [.int .i64 xf,.int .i64 xt,.int .i64 xd,.int .i64 xw] 0 _) (Nat.le_of_lt hRl))
   clear hHeld hx0 hz0 hb0 hz hb hbl3 hBs hsize hk1 hki
   go_wp2_with fail
   go_meet
   case rel=>exact ⟨by rw [← hsz1.out],by rw [← hsz1.out];exact hx5,hz5,hb5⟩
 case rest =>
  obtain ⟨rfl,hx5,hz5,hb5⟩:=hcut
  clear hB1 c0 c1 c2 c3 hz hb hsize hk1 hki
  generalize W1.heap.size = Bx at *
  have x0:=hx5.out.c 0 _ rfl
  have x1:=hx5.out.c 1 _ rfl
  have x2:=hx5.out.c 2 _ rfl
  have f0:=hx5.out.free 0 (by simp)
  have f1:=hx5.out.free 1 (by simp)
  have f2:=hx5.out.free 2 (by simp)
  have hne : w.heap.size ≠ Bx:=Nat.ne_of_lt hRl
  have hne2:=Lib.hid hne
  have hle:=Lib.hid (Nat.le_of_lt hRl)
  clear hne
  by_cases hneg : n < 0
  ·have hres : Hid (Cal.stepL l n = ⟨xt,xf,-xd,xw⟩):=by
    show _ = _
    rw [he.out,if_pos hneg];rfl
   have hx8:=Lib.hid (((hx5.out.set 0 (.int .i64 xt) (by simp)).set 1 (.int .i64 xf) (by simp)).set 2 (.int .i64 (-xd)) (by simp))
   have hz8:=Lib.hid (((hz5.out.aside1 (o:=0) hne2.out (.int .i64 xt)).aside1 (o:=1) hne2.out (.int .i64 xf)).aside1 (o:=2) hne2.out (.int .i64 (-xd)))
   have hb8:=Lib.hid (((hb5.out.setCell (p:=⟨Bx,0,none⟩) hle.out (.int .i64 xt)).setCell (p:=⟨Bx,1,none⟩) hle.out (.int .i64 xf)).setCell (p:=⟨Bx,2,none⟩) hle.out (.int .i64 (-xd)))
   clear he hx5 hz5 hb5
   go_wp2_with (first
    |(refine wpList_load_mid rfl 75 (.tmp 4) rfl Bx 0 rfl [.int .i64 xt,.int .i64 xf,.int .i64 (-xd),.int .i64 xw] _ hx8.out.range Try.underlying75 rfl levSize ?_)
    |(refine wpList_store_box rfl 75 (.tmp 3) (.tmp 23) rfl w.heap.size _ [.int .i64 xt,.int .i64 xf,.int .i64 (-xd),.int .i64 xw] (by rfl) (by rfl) hz8.out rfl levSize (by kernel_rfl) ?_;intro w9 h9 hg9))
   refine bodyPost_ret (results_mid1 rfl _ _ w.heap.size [.int .i64 xt,.int .i64 xf,.int .i64 (-xd),.int .i64 xw] _ rfl h9.range Try.underlying75 rfl levSize) rfl ⟨by rw [hres.out],below_of_grownB hb8.out hg9 (Nat.le_refl _)⟩
  ·have hres : Hid (Cal.stepL l n = ⟨xf,xt,xd,xw⟩):=by
    show _ = _
    rw [he.out,if_neg hneg]
   clear he
   go_wp2_with (first
    |(refine wpList_load_mid rfl 75 (.tmp 4) rfl Bx 0 rfl [.int .i64 xf,.int .i64 xt,.int .i64 xd,.int .i64 xw] _ hx5.out.range Try.underlying75 rfl levSize ?_)
    |(refine wpList_store_box rfl 75 (.tmp 3) (.tmp 23) rfl w.heap.size _ [.int .i64 xf,.int .i64 xt,.int .i64 xd,.int .i64 xw] (by rfl) (by rfl) hz5.out rfl levSize (by kernel_rfl) ?_;intro w9 h9 hg9))
   refine bodyPost_ret (results_mid1 rfl _ _ w.heap.size [.int .i64 xf,.int .i64 xt,.int .i64 xd,.int .i64 xw] _ rfl h9.range Try.underlying75 rfl levSize) rfl ⟨by rw [hres.out],below_of_grownB hb5.out hg9 (Nat.le_refl _)⟩
end Go.Proofs.Ythfokpchdlcidaa
namespace Go.Proofs.Ythfokpchdlcidaa
open Go Go.RowKit Go.Shelf
structure BxI (w : World) (v : Value) (W : World) : Prop where
 a : W.cell? ⟨w.heap.size,0,none⟩ = some v
 bel : Below w.heap.size w W
 lt : w.heap.size < W.heap.size
theorem BxI.below {w : World} {v : Value} {X Y : World} (h : BxI w v X) (hb : Below X.heap.size X Y) : BxI w v Y:=⟨(hb.cell (p:=⟨w.heap.size,0,none⟩) h.lt).trans h.a,below_step h.bel hb,Nat.lt_of_lt_of_le h.lt hb.size⟩
theorem field_lev1 (a b c d : Int) (w : World) : (Instr.field 75 (.agg #[.int .i64 a,.int .i64 b,.int .i64 c,.int .i64 d]) 1).run Try.prog w = .ok (.int .i64 b) w:=by kernel_rfl
theorem Misclosure_any (N : Int) (A : Option Addr) (c : Nat) (l : List Lev) (O : Option Addr) (c2 : Nat) (lp : List Int) (w : World) (hL : Levs w A l) (hI : RowsAt w O 1 (intRows lp)) (hs : lp.length ≤ 1000000) (hi : ∀ n ∈ lp,-9223372036854775808 ≤ n ∧ n ≤ 9223372036854775807) :
  Calls Try.prog 40 #[.int .i64 N,.slice A l.length c,.slice O lp.length c2] w fun e w'=>e = .returned (.tuple #[.int .i64 (Cal.misSN N l lp),.int .i64 (Cal.misEN N l lp)]) ∧ Below w.heap.size w w':=by
 have hX : Hid (BxI w (.slice A l.length c) (w.alloc (.cells #[.slice A l.length c] 22))):=⟨by simp,below_alloc _ _,by simp⟩
 have hck:=Lib.hid (fun W (hb : Below w.heap.size w W)=>CheckNet_any N A c l W (hL.below hb))
 have hsz:=hL.size
 obtain ⟨E,hE⟩ : ∃ E,Cal.misEN N l lp = E:=⟨_,rfl⟩
 obtain ⟨S,hS⟩ : ∃ S,Cal.misSN N l lp = S:=⟨_,rfl⟩
 rw [hE,hS]
 unfold Cal.misEN at hE
 unfold Cal.misSN at hS
 by_cases hz : Cal.netE N l = 0
 ·rw [if_pos hz] at hE hS
  obtain ⟨_,_,hl20,hlev,_⟩:=Cal.netE_zero hz
  have hv : Hid (∀ x ∈ l,-100000 ≤ x.d ∧ x.d ≤ 100000):=fun x hx=>by
   have:=Cal.levE_zero (hlev x hx);omega
  replace hz:=Lib.hid hz
  by_cases hlen : lp.length < 1 ∨ 100 < lp.length
  ·have hE2 : Hid (E = 10):=by show _ = _;rw [← hE];unfold Cal.misE;rw [if_pos hlen]
   have hS2 : Hid (S = 0):=by show _ = _;rw [← hS];unfold Cal.misS;rw [hE,if_neg (by rw [hE2.out];decide)]
   clear hE hS
   replace hL:=Lib.hid hL
   rcases hlen with h1 | h1
   ·have h1 : (lp.length : Int) < 1:=by omega
    go_enter Try.func40,Try.ntmps40
    go_wp2_with (go_at_call 9;refine (hck.out _ hX.out.bel).mono ?_;rintro e0 w1 ⟨rfl,hb1⟩;rw [hz.out];replace hX:=Lib.hid (hX.out.below hb1);clear hck hb1)
    go_ret2
    exact ⟨by rw [hE2.out,hS2.out];rfl,hX.out.bel⟩
   ·have h2 : ¬ (lp.length : Int) < 1:=by omega
    have h1 : 100 < (lp.length : Int):=by omega
    go_enter Try.func40,Try.ntmps40
    go_wp2_with (go_at_call 9;refine (hck.out _ hX.out.bel).mono ?_;rintro e0 w1 ⟨rfl,hb1⟩;rw [hz.out];replace hX:=Lib.hid (hX.out.below hb1);clear hck hb1)
    go_ret2
    exact ⟨by rw [hE2.out,hS2.out];rfl,hX.out.bel⟩
  ·have hE2 : Hid (E = if lp.any (Cal.badL l) = true then 6 else if Cal.chain (Cal.lastT 0 (lp.map (Cal.stepL l))) (lp.map (Cal.stepL l)) = true then 0 else 29):=by show _ = _;rw [← hE];unfold Cal.misE;rw [if_neg hlen]
   have hS2 : Hid (S = if E = 0 then Cal.sumD (lp.map (Cal.stepL l)) else 0):=by show _ = _;rw [← hS,← hE];rfl
   have h1 : ¬ (lp.length : Int) < 1:=by omega
   have h2 : ¬ 100 < (lp.length : Int):=by omega
   clear hE hS
   replace hL:=Lib.hid hL
   replace hI:=Lib.hid hI
   go_enter Try.func40,Try.ntmps40
   go_wp2_with (go_at_call 9;refine (hck.out _ hX.out.bel).mono ?_;rintro e0 w1 ⟨rfl,hb1⟩;rw [hz.out];replace hX:=Lib.hid (hX.out.below hb1);clear hck hb1)
   go_loopw [34] (fun i wr=>∃ k : Nat,k ≤ lp.length ∧ i = .int .i64 k ∧ Hid ((lp.take k).any (Cal.badL l) = false) ∧ Hid (BxI w (.slice A l.length c) wr)) (fun i _=>lp.length - (intOf i).toNat)
   case atStart=>exact ⟨0,Nat.zero_le _,rfl,rfl,hX⟩
   case round =>
    clear hX
    obtain ⟨k,hk,rfl,hno,hX⟩:=hrel
    by_cases hlt : k < lp.length
    ·obtain ⟨b,o,rfl,hbl,e0⟩:=intsI_at (hI.out.below hX.out.bel) hlt
     have hr:=hi _ (List.getElem_mem hlt)
     have hno2:=Cal.any_take (f:=Cal.badL l) hlt
     rw [hno.out,Bool.false_or] at hno2
     have hit:=Cal.any_hit (f:=Cal.badL l) hlt
     have hx0:=hX.out.a
     generalize lp[k] = n at *
     have hsize:=Lib.hid (fun W=>size_any n W hr.1 hr.2)
     have hu : IntKind.u64.wrap (l.length : Int) = (l.length : Int):=by rw [wrap_u64];omega
     by_cases hn0 : n = 0
     ·have hE3 : Hid (E = 6):=by show _ = _;rw [hE2.out,if_pos (hit (by rw [hn0];simp [Cal.badL]))]
      have hS3 : Hid (S = 0):=by show _ = _;rw [hS2.out,if_neg (by rw [hE3.out];decide)]
      clear hno2 hit hE2 hS2 hsize hr hu
      subst hn0
      go_wp2_with fail
      refine wp_region_held_drew (S:=Sx wr []) (by kernel_rfl) (Sx.mk (cs_nil _) (Below.refl _ _)).drew (fun hHeld=>?_)
      refine tkHx 0 38 ?_
      refine tkHx 1 39 ?_
      refine tkHx 2 40 ?_
      refine tkFx 3 41 ?_
      refine tkFx 4 42 ?_
      refine tkFx 5 43 ?_
      refine tkFx 6 44 ?_
      refine tkFx 7 45 ?_
      refine tkFx 8 46 ?_
      refine tkHx 9 47 ?_
      refine wpAnyH_done (by kernel_rfl) ?_ _
      (try simp only [apS,apN,siA,scZ,scS])
      have hb9:=Lib.hid (hX.out.below hHeld.bel)
      clear hHeld
      go_wp2_with fail
      go_ret2
      exact ⟨by rw [hE3.out,hS3.out];rfl,hb9.out.bel⟩
     ·have hn0b : (n == 0) = false:=by simpa using hn0
      by_cases hbig : l.length < n.natAbs
      ·have hE3 : Hid (E = 6):=by show _ = _;rw [hE2.out,if_pos (hit (by simp [Cal.badL];omega))]
       have hS3 : Hid (S = 0):=by show _ = _;rw [hS2.out,if_neg (by rw [hE3.out];decide)]
       have hg : (l.length : Int) < (n.natAbs : Int):=by omega
       clear hno2 hit hE2 hS2 hr hbig
       generalize n.natAbs = na at *
       go_wp2_with fail
       refine wp_region_held_drew (S:=Sx wr [(w.heap.size,0,.slice A l.length c)]) (by kernel_rfl) (Sx.mk (by simp only [cs_iff_cons];exact ⟨hx0,cs_nil _⟩) (Below.refl _ _)).drew (fun hHeld=>?_)
       refine tkHx 0 38 ?_
       refine tkHx 1 39 ?_
       refine tkHx 2 40 ?_
       refine tkHx 3 41 ?_
       refine tkHx 5 43 ?_
       refine tkHx 6 44 ?_
       refine tkHx 7 45 ?_
       (refine ratHx 4 (fun K hK=>?_);go_simp)
       refine (hsize.out _).mono ?_
       rintro e0 wz ⟨rfl,rfl⟩
       go_simp
       (refine hK.out _ _ hHeld (fun hHeld=>?_);clear hK K;(try simp only [apS,apN,siA,scZ,scS]))
       refine tkHx 8 46 ?_
       refine tkHx 9 47 ?_
       refine wpAnyH_done (by kernel_rfl) ?_ _
       (try simp only [apS,apN,siA,scZ,scS])
       have hb9:=Lib.hid (hX.out.below hHeld.bel)
       clear hHeld
       go_wp2_with fail
       go_ret2
       exact ⟨by rw [hE3.out,hS3.out];rfl,hb9.out.bel⟩
      ·have hno3 : Hid ((lp.take (k + 1)).any (Cal.badL l) = false):=by show _ = _;rw [hno2];simp [Cal.badL];omega
       have hg : ¬ (l.length : Int) < (n.natAbs : Int):=by omega
       clear hno2 hit hr hbig hno
       generalize n.natAbs = na at *
       go_wp2_with fail
       refine wp_region_held_drew (S:=Sx wr [(w.heap.size,0,.slice A l.length c)]) (by kernel_rfl) (Sx.mk (by simp only [cs_iff_cons];exact ⟨hx0,cs_nil _⟩) (Below.refl _ _)).drew (fun hHeld=>?_)
       refine tkHx 0 38 ?_
       refine tkHx 1 39 ?_
       refine tkHx 2 40 ?_
       refine tkHx 3 41 ?_
       refine tkHx 5 43 ?_
       refine tkHx 6 44 ?_
       refine tkHx 7 45 ?_
       (refine ratHx 4 (fun K hK=>?_);go_simp)
       refine (hsize.out _).mono ?_
       rintro e0 wz ⟨rfl,rfl⟩
       go_simp
       (refine hK.out _ _ hHeld (fun hHeld=>?_);clear hK K;(try simp only [apS,apN,siA,scZ,scS]))
       refine tkHx 8 46 ?_
       refine tkHx 9 47 ?_
       refine wpAnyH_done (by kernel_rfl) ?_ _
       (try simp only [apS,apN,siA,scZ,scS])
       have hb9:=Lib.hid (hX.out.below hHeld.bel)
       clear hHeld
       go_wp2_with fail
       go_roundw
       case rel=>exact ⟨k + 1,by omega,by go_num,hno3,hb9⟩
       case measure=>simp [intOf];omega
    ·obtain rfl : k = lp.length:=by omega
     have hno2 : lp.any (Cal.badL l) = false:=by have:=hno.out;rwa [List.take_length] at this
     have hE3 : Hid (E = if Cal.chain (Cal.lastT 0 (lp.map (Cal.stepL l))) (lp.map (Cal.stepL l)) = true then 0 else 29):=by show _ = _;rw [hE2.out,hno2,if_neg (by decide)]
     have hst : Hid (∀ n W,n ∈ lp → BxI w (.slice A l.length c) W → Calls Try.prog 64 #[.int .i64 n,.pointer (some ⟨w.heap.size,0,none⟩)] W fun e w'=>e = .returned (.agg #[.int .i64 (Cal.stepL l n).f,.int .i64 (Cal.stepL l n).t,.int .i64 (Cal.stepL l n).d,.int .i64 (Cal.stepL l n).w]) ∧ Below W.heap.size W w'):=fun n W hn hX=>stepG_any l A c n w.heap.size W hX.a hX.lt (hL.out.below hX.bel) hv.out (List.any_eq_false.1 hno2 n hn |> (by simpa using ·))
     have hbx : Hid (∀ n ∈ lp,-100000 ≤ (Cal.stepL l n).d ∧ (Cal.stepL l n).d ≤ 100000):=fun n hn=>Cal.stepL_box hv.out (List.any_eq_false.1 hno2 n hn |> (by simpa using ·))
     obtain ⟨m,hm⟩ : ∃ m,lp.length = m + 1:=⟨lp.length - 1,by omega⟩
     have hml : m < lp.length:=by omega
     obtain ⟨b,o,rfl,hbl,e0⟩:=intsI_at (hI.out.below hX.out.bel) hml
     have hm1 : IntKind.i64.wrap ((lp.length : Int) - 1) = (m : Int):=by rw [wrap_small (by omega) (by omega)];omega
     have hm2 : (m : Int) < (lp.length : Int):=by omega
     have hlast : Hid (Cal.lastT 0 (lp.map (Cal.stepL l)) = (Cal.stepL l lp[m]).t):=Cal.lastT_get (k:=m) (by rw [List.getElem?_map,List.getElem?_eq_getElem hml];rfl) (by rw [List.length_map];exact hm)
     have hmem:=Lib.hid (List.getElem_mem hml)
     generalize lp[m] = n at *
     have hxl : Hid ((lp.map (Cal.stepL l)).length = lp.length):=List.length_map ..
     have hxg : Hid (∀ k (h : k < lp.length),∃ hk : k < (lp.map (Cal.stepL l)).length,(lp.map (Cal.stepL l))[k] = Cal.stepL l lp[k]):=fun k h=>⟨by rw [List.length_map];exact h,List.getElem_map ..⟩
     clear hno hno2 hE2 hm hlt hk
     generalize lp.map (Cal.stepL l) = xs at *
     have hf1:=field_lev1
     go_wp2_with (go_at_call 64;refine (hst.out _ _ hmem.out hX.out).mono ?_;rintro e1 w3 ⟨rfl,hb3⟩;rw [← hlast.out];replace hX:=Lib.hid (hX.out.below hb3);clear hb3 e0)
     obtain ⟨a0,ha0⟩ : ∃ a0,Cal.lastT 0 xs = a0:=⟨_,rfl⟩
     rw [ha0] at hE3 ⊢
     clear hmem ha0 hlast hm1 hm2 hml
     go_loopw [12,13,60] (fun av sv i wr=>∃ k : Nat,k ≤ lp.length ∧ i = .int .i64 k ∧ av = .int .i64 (Cal.lastT a0 (xs.take k)) ∧ sv = .int .i64 (Cal.sumD (xs.take k)) ∧ Hid (Cal.chain a0 (xs.take k) = true) ∧ Hid (-(100000 * (k : Int)) ≤ Cal.sumD (xs.take k) ∧ Cal.sumD (xs.take k) ≤ 100000 * (k : Int)) ∧ Hid (BxI w (.slice A l.length c) wr)) (fun _ _ i _=>lp.length - (intOf i).toNat)
     case atStart=>exact ⟨0,Nat.zero_le _,rfl,rfl,rfl,rfl,⟨by simp [Cal.sumD],by simp [Cal.sumD]⟩,hX⟩
     case round =>
      clear hX
      obtain ⟨k,hk,rfl,rfl,rfl,hch,hsm,hX⟩:=hrel
      by_cases hlt : k < lp.length
      ·obtain ⟨b',o',hA,hbl,e0⟩:=intsI_at (hI.out.below hX.out.bel) hlt
       cases hA
       obtain ⟨hkx,hkg⟩:=hxg.out k hlt
       have hct:=Cal.chain_take (a:=a0) hkx
       have hlt2:=Cal.lastT_take (a:=a0) hkx
       have hsd:=Cal.sumD_take hkx
       have hbr:=fun h=>Cal.chain_break (a:=a0) hkx h
       rw [hkg] at hct hlt2 hsd hbr
       rw [hch.out,Bool.true_and] at hct
       have hd:=hbx.out _ (List.getElem_mem hlt)
       have hsm1:=hsm.out
       have hmem:=Lib.hid (List.getElem_mem hlt)
       have hstk:=Lib.hid (fun W hX=>hst.out _ W hmem.out hX)
       generalize lp[k] = n at *
       generalize Cal.stepL l n = x at *
       generalize Cal.lastT a0 (xs.take k) = at_ at *
       generalize Cal.sumD (xs.take k) = sm at *
       obtain ⟨xf,xt,xd,xw⟩:=x
       dsimp only at *
       have hadd : IntKind.i64.wrap (sm + xd) = sm + xd:=wrap_small (by omega) (by omega)
       have hsm2 : Hid (-(100000 * ((k + 1 : Nat) : Int)) ≤ Cal.sumD (xs.take (k + 1)) ∧ Cal.sumD (xs.take (k + 1)) ≤ 100000 * ((k + 1 : Nat) : Int)):=by
        show _ ∧ _
        rw [hsd];omega
       by_cases heq : xf = at_
       ·have hch2 : Hid (Cal.chain a0 (xs.take (k + 1)) = true):=by show _ = _;rw [hct,heq];simp
        replace hlt2:=Lib.hid hlt2
        replace hsd:=Lib.hid hsd
        clear hct hbr hkx hkg hd hsm1 hsm
        subst heq
        go_wp2_with (go_at_call 64;refine (hstk.out _ hX.out).mono ?_;rintro e1 w3 ⟨rfl,hb3⟩;replace hX:=Lib.hid (hX.out.below hb3);clear hb3 e0)
        have y1 : (w3.alloc (.cells #[.int .i64 xf,.int .i64 xt,.int .i64 xd,.int .i64 xw] 75)).cell? ⟨w3.heap.size,1,none⟩ = some (.int .i64 xt):=by simp
        have y2 : (w3.alloc (.cells #[.int .i64 xf,.int .i64 xt,.int .i64 xd,.int .i64 xw] 75)).cell? ⟨w3.heap.size,2,none⟩ = some (.int .i64 xd):=by simp
        refine wp_region_held_drew (S:=Sx (w3.alloc (.cells #[.int .i64 xf,.int .i64 xt,.int .i64 xd,.int .i64 xw] 75)) [(w3.heap.size,1,.int .i64 xt),(w3.heap.size,2,.int .i64 xd)]) (by kernel_rfl) (Sx.mk (by simp only [cs_iff_cons];exact ⟨y1,y2,cs_nil _⟩) (Below.refl _ _)).drew (fun hHeld=>?_)
        clear y1 y2
        refine tkHx 0 71 ?_
        refine tkHx 1 72 ?_
        refine tkHx 2 73 ?_
        refine tkHx 3 74 ?_
        refine tkHx 4 75 ?_
        refine tkHx 5 76 ?_
        refine tkHx 6 12 ?_
        refine tkHx 7 13 ?_
        refine wpAnyH_done (by kernel_rfl) ?_ _
        (try simp only [apS,apN,siA,scZ,scS])
        have hb9:=Lib.hid ((hX.out.below (below_alloc w3 (.cells #[.int .i64 xf,.int .i64 xt,.int .i64 xd,.int .i64 xw] 75))).below hHeld.bel)
        clear hHeld
        go_wp2_with fail
        go_roundw
        case rel=>exact ⟨k + 1,by omega,by go_num,by rw [hlt2.out],by rw [hsd.out],hch2,hsm2,hb9⟩
        case measure=>simp [intOf];omega
       ·have hch0 : Cal.chain a0 xs = false:=hbr heq
        have hE4 : Hid (E = 29):=by show _ = _;rw [hE3.out,hch0,if_neg (by decide)]
        have hS4 : Hid (S = 0):=by show _ = _;rw [hS2.out,if_neg (by rw [hE4.out];decide)]
        clear hct hbr hkx hkg hd hsm1 hsm hlt2 hsd hch0
        go_wp2_with (go_at_call 64;refine (hstk.out _ hX.out).mono ?_;rintro e1 w3 ⟨rfl,hb3⟩;replace hX:=Lib.hid (hX.out.below hb3);clear hb3 e0)
        go_ret2
        exact ⟨by rw [hE4.out,hS4.out];rfl,below_step hX.out.bel (below_alloc _ _)⟩
      ·obtain rfl : k = lp.length:=by omega
       have htk : xs.take lp.length = xs:=List.take_of_length_le (Nat.le_of_eq hxl.out)
       rw [htk] at hch hsm ⊢
       have hE4 : Hid (E = 0):=by show _ = _;rw [hE3.out,if_pos hch.out]
       have hS4 : Hid (S = Cal.sumD xs):=by show _ = _;rw [hS2.out,if_pos hE4.out]
       clear hch hsm htk
       go_wp2_with fail
       go_ret2
       exact ⟨by rw [hE4.out,hS4.out];rfl,hX.out.bel⟩
 ·rw [if_neg hz] at hE hS
  subst hE hS
  replace hL:=Lib.hid hL
  have h0b : (Cal.netE N l == 0) = false:=by simpa using hz
  have h0c : (Cal.netE N l != 0) = true:=by simpa using hz
  go_enter Try.func40,Try.ntmps40
  go_wp2_with (go_at_call 9;refine (hck.out _ hX.out.bel).mono ?_;rintro e0 w1 ⟨rfl,hb1⟩;replace hX:=Lib.hid (hX.out.below hb1);clear hck hb1)
  go_ret2
  exact ⟨rfl,hX.out.bel⟩
end Go.Proofs.Ythfokpchdlcidaa
namespace Go.Proofs.Ythfokpchdlcidaa
open Go Go.RowKit Go.Shelf
theorem undPtsW : Try.prog.underlying 35 = some (.slice (Try.prog.elem 35)):=by kernel_rfl
theorem sizePtW (w : World) : (sizeOf (Try.prog.elem 35)).run Try.prog w = .ok 2 w:=by kernel_rfl
theorem elemPtW : Elem Try.prog 35 40 2 16:=Elem.mk' Try.underlying35 (z:=.agg #[.int .i64 0,.int .i64 0]) (by kernel_rfl) rfl (by decide)
theorem cut_headP {t : TypeId} {m : Nat} (hu : Try.prog.underlying t = some (.slice (Try.prog.elem t))) (hz : ∀ w,(sizeOf (Try.prog.elem t)).run Try.prog w = .ok m w) {w : World} {A : Option Addr} {n c : Nat} {rows : List (List Value)} (hr : RowsAt w A m rows) (hc : n ≤ c) {k : Nat} (hk : k ≤ n) :
  ∃ A1 c1,(∀ w',(Instr.slice t (.slice A n c) none (some (.int .i64 (k : Int))) none).run Try.prog w' = .ok (.slice A1 k c1) w') ∧ RowsAt w A1 m (rows.take k):=by
 have hr1 : RowsAt w A m (rows.take k):=fun j r hr'=>by
  refine hr j r ?_
  rw [List.getElem?_take] at hr'
  split at hr'
  ·exact hr'
  ·cases hr'
 refine ⟨if c = 0 then A else A.map (·.add (0 * m)),c - 0,fun w'=>?_,?_⟩
 ·rw [run_slice_h w' t A n c hu .i64 k (by omega) (by omega),hz]
  simp [Result.andThen,sliced]
 ·split
  ·exact hr1
  ·intro j r hj
   obtain ⟨b,o,hA,hb,hcell⟩:=hr1 j r hj
   exact ⟨b,o,by rw [hA,Option.map_some,Nat.zero_mul];rfl,hb,hcell⟩
theorem ptRows_wid (ps : List Pt) : ∀ r ∈ ps.map ptR,r.length = 2:=fun r hr=>by obtain ⟨p,_,rfl⟩:=List.mem_map.1 hr;rfl
theorem ptRows_one (ps : List Pt) : ∀ r ∈ ps.map ptR,∀ u ∈ r,u.oneCell' = true:=fun r hr u hu=>by
 obtain ⟨p,_,rfl⟩:=List.mem_map.1 hr
 unfold ptR at hu
 rcases List.mem_cons.1 hu with e | hu
 ·rw [e];rfl
 ·rw [List.mem_singleton.1 hu];rfl
theorem erase_rows {ps : List Pt} {k : Nat} : (ps.take k).map ptR ++ (ps.drop (k + 1)).map ptR = (ps.eraseIdx k).map ptR:=by
 rw [← List.map_append,List.eraseIdx_eq_take_drop_succ]
theorem part_len {n k : Nat} (hk : k < n) (hn : n ≤ 1000000) : k ≤ 4000000000 ∧ k + (n - (k + 1)) ≤ 4000000000 ∧ min k n = k:=by omega
theorem withoutR_any (V : Option Addr) (d : Nat) (ps : List Pt) (k : Nat) (w : World) (hP : RowsAt w V 2 (ps.map ptR)) (hd : ps.length ≤ d) (hk : k < ps.length) (hn : ps.length ≤ 1000000) :
  Calls Try.prog 94 #[.slice V ps.length d,.int .i64 (k : Int)] w fun e w'=>∃ v,e = .returned v ∧ OwnL w' w.heap.size 40 2 v ((ps.eraseIdx k).map ptR) ∧ Below w.heap.size w w':=by
 obtain ⟨A1,d1,hcut1,hr1⟩:=cut_headP undPtsW sizePtW hP hd (k:=k) (by omega)
 obtain ⟨A2,d2,hcut2,_,hr2⟩:=cut_tail undPtsW sizePtW (n:=ps.length) (c:=d) (by rw [List.length_map]) hP hd (k:=k + 1) (by omega)
 rw [← List.map_take] at hr1
 rw [← List.map_drop] at hr2
 have hcut1' : ∀ w',(Instr.slice 35 (.slice V ps.length d) none (some (.int .i64 (k : Int))) none).run Try.prog w' = .ok (.slice A1 k d1) w':=hcut1
 have hcut2' : ∀ w',(Instr.slice 35 (.slice V ps.length d) (some (.int .i64 ((k : Int) + 1))) none none).run Try.prog w' = .ok (.slice A2 (ps.length - (k + 1)) d2) w':=by
  have e : ((k + 1 : Nat) : Int) = (k : Int) + 1:=by omega
  rw [e] at hcut2
  exact hcut2
 have hk1 : IntKind.i64.wrap ((k : Int) + 1) = (k : Int) + 1:=wrap_small (by omega) (by omega)
 have hk1b : wrap64 ((k : Int) + 1) = (k : Int) + 1:=by rw [← wrap_eq];exact hk1
 obtain ⟨q1,q2,q3⟩:=part_len hk hn
 have q1:=Lib.hid q1
 have q2:=Lib.hid q2
 have hl1 : Hid ((ps.take k).length = k):=by show _ = _;rw [List.length_take];exact q3
 have hl2 : Hid ((ps.drop (k + 1)).length = ps.length - (k + 1)):=by show _ = _;rw [List.length_drop]
 replace hr1:=Lib.hid (hr1.below ((Below.refl _ _).drew))
 replace hr2:=Lib.hid (hr2.below ((Below.refl _ _).drew))
 have hws : Hid (w.heap.size ≤ w.drew.heap.size):=Nat.le_refl _
 clear q3 hcut1 hcut2 hP
 go_enter Try.func94,Try.ntmps94
 go_wp2_with fail
 refine wp_region_held_drew (S:=Sx w []) (by kernel_rfl) (Sx.mk (cs_nil _) (Below.refl _ _)).drew (fun hHeld=>?_)
 generalize w.drew = Y at *
 refine tkHx 1 6 ?_
 refine tkHx 2 7 ?_
 refine tkHx 3 8 ?_
 refine tkHx 5 10 ?_
 refine tkHx 6 11 ?_
 refine tkHx 7 12 ?_
 refine tkHx 8 13 ?_
 (refine ratHx 0 (fun K hK=>?_);go_simp)
 refine hK.out _ _ (hHeld.alloc _) (fun hHeld=>?_)
 clear hK K
 (try simp only [apS,apN,siA,scZ,scS])
 have hmade:=Lib.hid (OwnL.made Y Y.heap.size 40 2 (Nat.le_refl _))
 (refine wpAnyH_ready (rs:=[4]) (by decide +kernel) (by simp) ?_;refine AllReadyH.cons rfl (fun K hK=>?_) AllReadyH.nil)
 refine step_append_rows elemPtW (by rfl) (.tmp 5) (.tmp 8) (by rfl) (by rfl) (by rfl) hmade.out (hr1.out.below (below_alloc _ _)) (by rw [List.length_map,hl1.out]) (ptRows_wid _) (ptRows_one _) (by rw [List.length_map,hl1.out,List.length_nil,Nat.zero_add];exact q1.out) (by decide) (by rw [World.size_alloc];exact Nat.le_succ _) ?_
 intro v1 w5 hown5 hg5 hob5
 have hb5:=Lib.hid (((Below.refl _ _).alloc (Nat.le_refl _) _).trans (grown_below hg5 (fun g e=>(OwnL.lt hmade.out g e).1) (by rw [World.size_alloc];exact Nat.le_succ _)) : Below Y.heap.size Y w5)
 refine hK.out _ _ (hHeld.grow hg5 (fun g e=>Nat.le_trans hws.out (OwnL.lt hmade.out g e).1) (fun x hx=>by cases hx)) (fun hHeld=>?_)
 clear hK K hg5 hob5
 (try simp only [apS,apN,siA,scZ,scS])
 (refine wpAnyH_ready (rs:=[9]) (by decide +kernel) (by simp) ?_;refine AllReadyH.cons rfl (fun K hK=>?_) AllReadyH.nil)
 refine step_append_rows elemPtW (by rfl) (.tmp 9) (.tmp 13) (by rfl) (by rfl) (by rfl) hown5 (hr2.out.below hb5.out) (by rw [List.length_map,hl2.out]) (ptRows_wid _) (ptRows_one _) (by rw [List.length_map,hl2.out,List.nil_append,List.length_map,hl1.out];exact q2.out) (by decide) hb5.out.size ?_
 intro v2 w6 hown6 hg6 hob6
 refine hK.out _ _ (hHeld.grow hg6 (fun g e=>Nat.le_trans hws.out (OwnL.lt hown5 g e).1) (fun x hx=>by cases hx)) (fun hHeld=>?_)
 clear hK K hg6 hob6
 rw [List.nil_append,erase_rows] at hown6
 (try simp only [apS,apN,siA,scZ,scS])
 dsimp only [List.getElem_toArray,List.getElem_cons_succ,List.getElem_cons_zero]
 (try simp only [apS,apN,siA,scZ,scS])
 refine tkHx 10 4 ?_
 refine wpAnyH_done (by kernel_rfl) ?_ _
 (try simp only [apS,apN,siA,scZ,scS])
 go_wp2_with fail
 go_ret
 exact ⟨v2,rfl,OwnL.less hown6 hws.out,hHeld.bel⟩
end Go.Proofs.Ythfokpchdlcidaa
namespace Go.Proofs.Ythfokpchdlcidaa
open Go Go.RowKit Go.Shelf
theorem wpPushP {ops : Array Oper} {rest : List Oper} {op : Oper} {a : Act} {w : World} {Q : Exit → Act → World → Prop} {B : Nat} {v : Value} {rows : List (List Value)} {t : TypeId} (q : Pt) (h : OwnL w B 40 2 v rows) (hB : B ≤ w.heap.size) (hlen : rows.length ≤ 1000000)
  (hgd : op.guard = none) (s x : Operand) (ho : op.op = .call { callee:=.builtin .append,args:=#[s,x],argTypes:=#[35,35] }) (hs : a.eval s = v) {c n : Nat} (hx : a.eval x = .slice (some ⟨n,0,none⟩) 1 c) (hn : n = w.heap.size)
  (k : ∀ v' w',OwnL w' B 40 2 v' (rows ++ [ptR q]) → Below B w w' → (w.alloc (.cells #[.int .i64 q.x,.int .i64 q.y] t)).grownBy w' v.ownBlock → wpList Try.prog ops Q rest (a.put op.dst v') w') : wpList Try.prog ops Q (op :: rest) a (w.alloc (.cells #[.int .i64 q.x,.int .i64 q.y] t)):=by
 subst hn
 refine wpList_append_rows elemPtW hgd s x ho hs hx (OwnL.below h (below_alloc _ _)) (rowsAt_new _ (ptR q) _) rfl (fun r hr=>by rw [List.mem_singleton.1 hr];rfl) (fun r hr u hu=>by
  rw [List.mem_singleton.1 hr] at hu
  unfold ptR at hu
  rcases List.mem_cons.1 hu with e | hu
  ·rw [e];rfl
  ·rw [List.mem_singleton.1 hu];rfl) (by rw [List.length_singleton];omega) (by decide) (by simp;omega) ?_
 intro v' w2 hown2 hg2 _
 exact k v' w2 hown2 (((Below.refl B w).alloc hB _).trans (grown_below hg2 (fun g e=>(OwnL.lt h g e).1) (by simp;omega))) hg2
end Go.Proofs.Ythfokpchdlcidaa
namespace Go.Proofs.Ythfokpchdlcidaa
open Go Go.RowKit Go.Shelf
theorem sdsR_drop {ps : List Pt} {k : Nat} (h : k < ps.length) : (Cal.sds ps).drop k = Cal.sd ps k :: (Cal.sds ps).drop (k + 1):=by
 have hk : k < (Cal.sds ps).length:=by unfold Cal.sds;simpa using h
 rw [List.drop_eq_getElem_cons hk]
 congr 1
 simp [Cal.sds]
def sgnB (b : Bool) : Int:=if b then 1 else -1
theorem trn_pos (s : Sd) (q : Pt) : decide (0 < Cal.trn s q) = decide (0 < Cal.crs s q):=by
 rw [decide_eq_decide]
 unfold Cal.trn Cal.cmpI
 split
 ·omega
 ·split <;> omega
theorem whereFrom_step (q : Pt) (b : Bool) (s : Sd) (r : List Sd) (hon : Cal.hasP s q = false) :
  Cal.whereFrom q b (s :: r) = Cal.whereFrom q (if (decide (s.a.y ≤ q.y) != decide (s.b.y ≤ q.y)) && (decide (0 < Cal.crs s q) == decide (s.a.y < s.b.y)) then !b else b) r:=by
 rw [Cal.whereFrom,hon,trn_pos]
 have e1 : decide (q.y < s.a.y) = !decide (s.a.y ≤ q.y):=by rw [← decide_not,decide_eq_decide];omega
 have e2 : decide (q.y < s.b.y) = !decide (s.b.y ≤ q.y):=by rw [← decide_not,decide_eq_decide];omega
 rw [e1,e2]
 generalize decide (s.a.y ≤ q.y) = x
 generalize decide (s.b.y ≤ q.y) = y
 cases x <;> cases y <;> rfl
theorem WhereR_any (V : Option Addr) (d : Nat) (ps : List Pt) (q : Pt) (w : World) (hP : Pts w V ps) (hq : SmP q) (hl : ps.length ≤ 100000) : Calls Try.prog 73 #[.slice V ps.length d,.agg #[.int .i64 q.x,.int .i64 q.y]] w fun e w'=>e = .returned (.int .i64 (Cal.whereP ps q)) ∧ Below w.heap.size w w':=by
 have hPR : Hid (PtsR w V ps):=⟨hP.rows,hP.size,hP.own⟩
 have hsm:=Lib.hid (fun k hk=>hP.sd k hk)
 have hb0:=Lib.hid (below_alloc w (.cells #[.int .i64 q.x,.int .i64 q.y] 40))
 have hQ0:=Lib.hid (BoxAt.new w #[.int .i64 q.x,.int .i64 q.y] 40)
 have h00 : Hid (Cal.whereP ps q = Cal.whereFrom q false ((Cal.sds ps).drop 0)):=rfl
 generalize Cal.whereP ps q = z at *
 clear hP
 go_enter Try.func73,Try.ntmps73
 go_wp2_with fail
 go_loopw [5,6] (fun n i wr=>∃ (k : Nat) (b : Bool),k ≤ ps.length ∧ i = .int .i64 k ∧ n = .int .i64 (sgnB b) ∧ Hid (z = Cal.whereFrom q b ((Cal.sds ps).drop k)) ∧ Hid (BoxAt wr w.heap.size [.int .i64 q.x,.int .i64 q.y]) ∧ Hid (Below w.heap.size w wr)) (fun _ i _=>ps.length - (intOf i).toNat)
 case atStart=>exact ⟨0,false,Nat.zero_le _,rfl,rfl,h00,hQ0,hb0⟩
 case round =>
  clear hb0 hQ0 h00
  obtain ⟨k,b,hk,rfl,rfl,hz,hQ,hb⟩:=hrel
  by_cases hlt : k < ps.length
  ·have hs : SmS (Cal.sd ps k):=hsm.out k hlt
   have hsd:=Lib.hid (fun W hW=>sideR_any V d ps k W (hPR.out.below hW) hlt hl)
   have hz2 : z = Cal.whereFrom q b (Cal.sd ps k :: (Cal.sds ps).drop (k + 1)):=by rw [← sdsR_drop hlt];exact hz.out
   clear hz
   generalize Cal.sd ps k = s at *
   have hon:=Lib.hid (fun W=>OnR_any s q W hs hq)
   have hcr : Hid (∀ W,Calls Try.prog 91 #[.agg #[.int .i64 s.a.x,.int .i64 s.a.y],.agg #[.int .i64 s.b.x,.int .i64 s.b.y],.agg #[.int .i64 q.x,.int .i64 q.y]] W fun e w'=>e = .returned (.int .i64 (Cal.crs s q)) ∧ Below W.heap.size W w'):=fun W=>crossR_any s.a s.b q W hs.a hs.b hq
   cases hh : Cal.hasP s q
   ·rw [whereFrom_step q b s _ hh] at hz2
    have hz:=Lib.hid hz2
    rw [hh] at hon
    clear hz2 hh hs
    have hneg : IntKind.i64.wrap (-(sgnB b)) = sgnB (!b):=by cases b <;> rfl
    by_cases h1 : s.a.y ≤ q.y
    ·by_cases h2 : s.b.y ≤ q.y
     ·have hz2 : Hid (z = Cal.whereFrom q b ((Cal.sds ps).drop (k + 1))):=by
       show _ = _
       have:=hz.out
       rw [decide_eq_true h1,decide_eq_true h2] at this
       exact this
      clear hz
      have f0:=decide_eq_true h1
      have f1:=decide_eq_true h2
      go_wp2_with (first
       |(go_at_call 68;refine (hsd.out _ hb.out).mono ?_;rintro e w1 ⟨rfl,hb1⟩;have hQ1:=Lib.hid ((hQ.out.below hb1).below (below_alloc w1 (.cells #[.int .i64 s.a.x,.int .i64 s.a.y,.int .i64 s.b.x,.int .i64 s.b.y] 72)));have hbb1:=Lib.hid (below_step (below_step hb.out hb1) (below_alloc w1 (.cells #[.int .i64 s.a.x,.int .i64 s.a.y,.int .i64 s.b.x,.int .i64 s.b.y] 72)));have hB1:=Lib.hid (BoxAt.new w1 #[.int .i64 s.a.x,.int .i64 s.a.y,.int .i64 s.b.x,.int .i64 s.b.y] 72);have d0:=hQ1.out.c 0 _ rfl;have d1:=hQ1.out.c 1 _ rfl;clear hb1)
       |(go_at_call 69;refine (hon.out _).mono ?_;rintro e w2 ⟨rfl,hb2⟩;have hQ2:=Lib.hid (hQ1.out.below hb2);have hbb2:=Lib.hid (below_step hbb1.out hb2);have hB2:=Lib.hid (hB1.out.below hb2);clear hb2 d0 d1;have d0:=hQ2.out.c 0 _ rfl;have d1:=hQ2.out.c 1 _ rfl;have c0:=hB2.out.c 0 _ rfl;have c1:=hB2.out.c 1 _ rfl;have c2:=hB2.out.c 2 _ rfl;have c3:=hB2.out.c 3 _ rfl)
       |(go_at_call 91;refine (hcr.out _).mono ?_;rintro e w3 ⟨rfl,hb3⟩;have hQ3:=Lib.hid (hQ2.out.below hb3);have hbb3:=Lib.hid (below_step hbb2.out hb3);have hB3:=Lib.hid (hB2.out.below hb3);clear hb3 d0 d1 c0 c1 c2 c3;have d0:=hQ3.out.c 0 _ rfl;have d1:=hQ3.out.c 1 _ rfl;have c0:=hB3.out.c 0 _ rfl;have c1:=hB3.out.c 1 _ rfl;have c2:=hB3.out.c 2 _ rfl;have c3:=hB3.out.c 3 _ rfl))
      go_roundw
      case rel=>exact ⟨k + 1,b,hlt,by go_num,rfl,hz2,hQ2,hbb2⟩
      case measure=>simp [intOf];omega
     ·have h4 : s.a.y < s.b.y:=by omega
      by_cases h3 : 0 < Cal.crs s q
      ·have hz2 : Hid (z = Cal.whereFrom q (!b) ((Cal.sds ps).drop (k + 1))):=by
        show _ = _
        have:=hz.out
        rw [decide_eq_true h1,decide_eq_false h2,decide_eq_true h3,decide_eq_true h4] at this
        exact this
       clear hz
       have f0:=decide_eq_true h1
       have f1:=decide_eq_false h2
       have f2:=decide_eq_true h3
       have f3:=decide_eq_true h4
       go_wp2_with (first
        |(go_at_call 68;refine (hsd.out _ hb.out).mono ?_;rintro e w1 ⟨rfl,hb1⟩;have hQ1:=Lib.hid ((hQ.out.below hb1).below (below_alloc w1 (.cells #[.int .i64 s.a.x,.int .i64 s.a.y,.int .i64 s.b.x,.int .i64 s.b.y] 72)));have hbb1:=Lib.hid (below_step (below_step hb.out hb1) (below_alloc w1 (.cells #[.int .i64 s.a.x,.int .i64 s.a.y,.int .i64 s.b.x,.int .i64 s.b.y] 72)));have hB1:=Lib.hid (BoxAt.new w1 #[.int .i64 s.a.x,.int .i64 s.a.y,.int .i64 s.b.x,.int .i64 s.b.y] 72);have d0:=hQ1.out.c 0 _ rfl;have d1:=hQ1.out.c 1 _ rfl;clear hb1)
        |(go_at_call 69;refine (hon.out _).mono ?_;rintro e w2 ⟨rfl,hb2⟩;have hQ2:=Lib.hid (hQ1.out.below hb2);have hbb2:=Lib.hid (below_step hbb1.out hb2);have hB2:=Lib.hid (hB1.out.below hb2);clear hb2 d0 d1;have d0:=hQ2.out.c 0 _ rfl;have d1:=hQ2.out.c 1 _ rfl;have c0:=hB2.out.c 0 _ rfl;have c1:=hB2.out.c 1 _ rfl;have c2:=hB2.out.c 2 _ rfl;have c3:=hB2.out.c 3 _ rfl)
        |(go_at_call 91;refine (hcr.out _).mono ?_;rintro e w3 ⟨rfl,hb3⟩;have hQ3:=Lib.hid (hQ2.out.below hb3);have hbb3:=Lib.hid (below_step hbb2.out hb3);have hB3:=Lib.hid (hB2.out.below hb3);clear hb3 d0 d1 c0 c1 c2 c3;have d0:=hQ3.out.c 0 _ rfl;have d1:=hQ3.out.c 1 _ rfl;have c0:=hB3.out.c 0 _ rfl;have c1:=hB3.out.c 1 _ rfl;have c2:=hB3.out.c 2 _ rfl;have c3:=hB3.out.c 3 _ rfl))
       go_roundw
       case rel=>exact ⟨k + 1,!b,hlt,by go_num,rfl,hz2,hQ3,hbb3⟩
       case measure=>simp [intOf];omega
      ·have hz2 : Hid (z = Cal.whereFrom q b ((Cal.sds ps).drop (k + 1))):=by
        show _ = _
        have:=hz.out
        rw [decide_eq_true h1,decide_eq_false h2,decide_eq_false h3,decide_eq_true h4] at this
        exact this
       clear hz
       have f0:=decide_eq_true h1
       have f1:=decide_eq_false h2
       have f2:=decide_eq_false h3
       have f3:=decide_eq_true h4
       go_wp2_with (first
        |(go_at_call 68;refine (hsd.out _ hb.out).mono ?_;rintro e w1 ⟨rfl,hb1⟩;have hQ1:=Lib.hid ((hQ.out.below hb1).below (below_alloc w1 (.cells #[.int .i64 s.a.x,.int .i64 s.a.y,.int .i64 s.b.x,.int .i64 s.b.y] 72)));have hbb1:=Lib.hid (below_step (below_step hb.out hb1) (below_alloc w1 (.cells #[.int .i64 s.a.x,.int .i64 s.a.y,.int .i64 s.b.x,.int .i64 s.b.y] 72)));have hB1:=Lib.hid (BoxAt.new w1 #[.int .i64 s.a.x,.int .i64 s.a.y,.int .i64 s.b.x,.int .i64 s.b.y] 72);have d0:=hQ1.out.c 0 _ rfl;have d1:=hQ1.out.c 1 _ rfl;clear hb1)
        |(go_at_call 69;refine (hon.out _).mono ?_;rintro e w2 ⟨rfl,hb2⟩;have hQ2:=Lib.hid (hQ1.out.below hb2);have hbb2:=Lib.hid (below_step hbb1.out hb2);have hB2:=Lib.hid (hB1.out.below hb2);clear hb2 d0 d1;have d0:=hQ2.out.c 0 _ rfl;have d1:=hQ2.out.c 1 _ rfl;have c0:=hB2.out.c 0 _ rfl;have c1:=hB2.out.c 1 _ rfl;have c2:=hB2.out.c 2 _ rfl;have c3:=hB2.out.c 3 _ rfl)
        |(go_at_call 91;refine (hcr.out _).mono ?_;rintro e w3 ⟨rfl,hb3⟩;have hQ3:=Lib.hid (hQ2.out.below hb3);have hbb3:=Lib.hid (below_step hbb2.out hb3);have hB3:=Lib.hid (hB2.out.below hb3);clear hb3 d0 d1 c0 c1 c2 c3;have d0:=hQ3.out.c 0 _ rfl;have d1:=hQ3.out.c 1 _ rfl;have c0:=hB3.out.c 0 _ rfl;have c1:=hB3.out.c 1 _ rfl;have c2:=hB3.out.c 2 _ rfl;have c3:=hB3.out.c 3 _ rfl))
       go_roundw
       case rel=>exact ⟨k + 1,b,hlt,by go_num,rfl,hz2,hQ3,hbb3⟩
       case measure=>simp [intOf];omega
    ·by_cases h2 : s.b.y ≤ q.y
     ·have h4 : ¬ s.a.y < s.b.y:=by omega
      by_cases h3 : 0 < Cal.crs s q
      ·have hz2 : Hid (z = Cal.whereFrom q b ((Cal.sds ps).drop (k + 1))):=by
        show _ = _
        have:=hz.out
        rw [decide_eq_false h1,decide_eq_true h2,decide_eq_true h3,decide_eq_false h4] at this
        exact this
       clear hz
       have f0:=decide_eq_false h1
       have f1:=decide_eq_true h2
       have f2:=decide_eq_true h3
       have f3:=decide_eq_false h4
       go_wp2_with (first
        |(go_at_call 68;refine (hsd.out _ hb.out).mono ?_;rintro e w1 ⟨rfl,hb1⟩;have hQ1:=Lib.hid ((hQ.out.below hb1).below (below_alloc w1 (.cells #[.int .i64 s.a.x,.int .i64 s.a.y,.int .i64 s.b.x,.int .i64 s.b.y] 72)));have hbb1:=Lib.hid (below_step (below_step hb.out hb1) (below_alloc w1 (.cells #[.int .i64 s.a.x,.int .i64 s.a.y,.int .i64 s.b.x,.int .i64 s.b.y] 72)));have hB1:=Lib.hid (BoxAt.new w1 #[.int .i64 s.a.x,.int .i64 s.a.y,.int .i64 s.b.x,.int .i64 s.b.y] 72);have d0:=hQ1.out.c 0 _ rfl;have d1:=hQ1.out.c 1 _ rfl;clear hb1)
        |(go_at_call 69;refine (hon.out _).mono ?_;rintro e w2 ⟨rfl,hb2⟩;have hQ2:=Lib.hid (hQ1.out.below hb2);have hbb2:=Lib.hid (below_step hbb1.out hb2);have hB2:=Lib.hid (hB1.out.below hb2);clear hb2 d0 d1;have d0:=hQ2.out.c 0 _ rfl;have d1:=hQ2.out.c 1 _ rfl;have c0:=hB2.out.c 0 _ rfl;have c1:=hB2.out.c 1 _ rfl;have c2:=hB2.out.c 2 _ rfl;have c3:=hB2.out.c 3 _ rfl)
        |(go_at_call 91;refine (hcr.out _).mono ?_;rintro e w3 ⟨rfl,hb3⟩;have hQ3:=Lib.hid (hQ2.out.below hb3);have hbb3:=Lib.hid (below_step hbb2.out hb3);have hB3:=Lib.hid (hB2.out.below hb3);clear hb3 d0 d1 c0 c1 c2 c3;have d0:=hQ3.out.c 0 _ rfl;have d1:=hQ3.out.c 1 _ rfl;have c0:=hB3.out.c 0 _ rfl;have c1:=hB3.out.c 1 _ rfl;have c2:=hB3.out.c 2 _ rfl;have c3:=hB3.out.c 3 _ rfl))
       go_roundw
       case rel=>exact ⟨k + 1,b,hlt,by go_num,rfl,hz2,hQ3,hbb3⟩
       case measure=>simp [intOf];omega
      ·have hz2 : Hid (z = Cal.whereFrom q (!b) ((Cal.sds ps).drop (k + 1))):=by
        show _ = _
        have:=hz.out
        rw [decide_eq_false h1,decide_eq_true h2,decide_eq_false h3,decide_eq_false h4] at this
        exact this
       clear hz
       have f0:=decide_eq_false h1
       have f1:=decide_eq_true h2
       have f2:=decide_eq_false h3
       have f3:=decide_eq_false h4
       go_wp2_with (first
        |(go_at_call 68;refine (hsd.out _ hb.out).mono ?_;rintro e w1 ⟨rfl,hb1⟩;have hQ1:=Lib.hid ((hQ.out.below hb1).below (below_alloc w1 (.cells #[.int .i64 s.a.x,.int .i64 s.a.y,.int .i64 s.b.x,.int .i64 s.b.y] 72)));have hbb1:=Lib.hid (below_step (below_step hb.out hb1) (below_alloc w1 (.cells #[.int .i64 s.a.x,.int .i64 s.a.y,.int .i64 s.b.x,.int .i64 s.b.y] 72)));have hB1:=Lib.hid (BoxAt.new w1 #[.int .i64 s.a.x,.int .i64 s.a.y,.int .i64 s.b.x,.int .i64 s.b.y] 72);have d0:=hQ1.out.c 0 _ rfl;have d1:=hQ1.out.c 1 _ rfl;clear hb1)
        |(go_at_call 69;refine (hon.out _).mono ?_;rintro e w2 ⟨rfl,hb2⟩;have hQ2:=Lib.hid (hQ1.out.below hb2);have hbb2:=Lib.hid (below_step hbb1.out hb2);have hB2:=Lib.hid (hB1.out.below hb2);clear hb2 d0 d1;have d0:=hQ2.out.c 0 _ rfl;have d1:=hQ2.out.c 1 _ rfl;have c0:=hB2.out.c 0 _ rfl;have c1:=hB2.out.c 1 _ rfl;have c2:=hB2.out.c 2 _ rfl;have c3:=hB2.out.c 3 _ rfl)
        |(go_at_call 91;refine (hcr.out _).mono ?_;rintro e w3 ⟨rfl,hb3⟩;have hQ3:=Lib.hid (hQ2.out.below hb3);have hbb3:=Lib.hid (below_step hbb2.out hb3);have hB3:=Lib.hid (hB2.out.below hb3);clear hb3 d0 d1 c0 c1 c2 c3;have d0:=hQ3.out.c 0 _ rfl;have d1:=hQ3.out.c 1 _ rfl;have c0:=hB3.out.c 0 _ rfl;have c1:=hB3.out.c 1 _ rfl;have c2:=hB3.out.c 2 _ rfl;have c3:=hB3.out.c 3 _ rfl))
       go_roundw
       case rel=>exact ⟨k + 1,!b,hlt,by go_num,rfl,hz2,hQ3,hbb3⟩
       case measure=>simp [intOf];omega
     ·have hz2 : Hid (z = Cal.whereFrom q b ((Cal.sds ps).drop (k + 1))):=by
       show _ = _
       have:=hz.out
       rw [decide_eq_false h1,decide_eq_false h2] at this
       exact this
      clear hz
      have f0:=decide_eq_false h1
      have f1:=decide_eq_false h2
      go_wp2_with (first
       |(go_at_call 68;refine (hsd.out _ hb.out).mono ?_;rintro e w1 ⟨rfl,hb1⟩;have hQ1:=Lib.hid ((hQ.out.below hb1).below (below_alloc w1 (.cells #[.int .i64 s.a.x,.int .i64 s.a.y,.int .i64 s.b.x,.int .i64 s.b.y] 72)));have hbb1:=Lib.hid (below_step (below_step hb.out hb1) (below_alloc w1 (.cells #[.int .i64 s.a.x,.int .i64 s.a.y,.int .i64 s.b.x,.int .i64 s.b.y] 72)));have hB1:=Lib.hid (BoxAt.new w1 #[.int .i64 s.a.x,.int .i64 s.a.y,.int .i64 s.b.x,.int .i64 s.b.y] 72);have d0:=hQ1.out.c 0 _ rfl;have d1:=hQ1.out.c 1 _ rfl;clear hb1)
       |(go_at_call 69;refine (hon.out _).mono ?_;rintro e w2 ⟨rfl,hb2⟩;have hQ2:=Lib.hid (hQ1.out.below hb2);have hbb2:=Lib.hid (below_step hbb1.out hb2);have hB2:=Lib.hid (hB1.out.below hb2);clear hb2 d0 d1;have d0:=hQ2.out.c 0 _ rfl;have d1:=hQ2.out.c 1 _ rfl;have c0:=hB2.out.c 0 _ rfl;have c1:=hB2.out.c 1 _ rfl;have c2:=hB2.out.c 2 _ rfl;have c3:=hB2.out.c 3 _ rfl)
       |(go_at_call 91;refine (hcr.out _).mono ?_;rintro e w3 ⟨rfl,hb3⟩;have hQ3:=Lib.hid (hQ2.out.below hb3);have hbb3:=Lib.hid (below_step hbb2.out hb3);have hB3:=Lib.hid (hB2.out.below hb3);clear hb3 d0 d1 c0 c1 c2 c3;have d0:=hQ3.out.c 0 _ rfl;have d1:=hQ3.out.c 1 _ rfl;have c0:=hB3.out.c 0 _ rfl;have c1:=hB3.out.c 1 _ rfl;have c2:=hB3.out.c 2 _ rfl;have c3:=hB3.out.c 3 _ rfl))
      go_roundw
      case rel=>exact ⟨k + 1,b,hlt,by go_num,rfl,hz2,hQ2,hbb2⟩
      case measure=>simp [intOf];omega
   ·have hz3 : Hid (z = 0):=by show _ = _;rw [hz2,Cal.whereFrom,hh];rfl
    rw [hh] at hon
    clear hz2 hh hs
    go_wp2_with (first
     |(go_at_call 68;refine (hsd.out _ hb.out).mono ?_;rintro e w1 ⟨rfl,hb1⟩;have hQ1:=Lib.hid ((hQ.out.below hb1).below (below_alloc w1 (.cells #[.int .i64 s.a.x,.int .i64 s.a.y,.int .i64 s.b.x,.int .i64 s.b.y] 72)));have hbb1:=Lib.hid (below_step (below_step hb.out hb1) (below_alloc w1 (.cells #[.int .i64 s.a.x,.int .i64 s.a.y,.int .i64 s.b.x,.int .i64 s.b.y] 72)));have hB1:=Lib.hid (BoxAt.new w1 #[.int .i64 s.a.x,.int .i64 s.a.y,.int .i64 s.b.x,.int .i64 s.b.y] 72);have d0:=hQ1.out.c 0 _ rfl;have d1:=hQ1.out.c 1 _ rfl;clear hb1)
     |(go_at_call 69;refine (hon.out _).mono ?_;rintro e w2 ⟨rfl,hb2⟩;have hQ2:=Lib.hid (hQ1.out.below hb2);have hbb2:=Lib.hid (below_step hbb1.out hb2);have hB2:=Lib.hid (hB1.out.below hb2);clear hb2 d0 d1;have d0:=hQ2.out.c 0 _ rfl;have d1:=hQ2.out.c 1 _ rfl;have c0:=hB2.out.c 0 _ rfl;have c1:=hB2.out.c 1 _ rfl;have c2:=hB2.out.c 2 _ rfl;have c3:=hB2.out.c 3 _ rfl)
     |(go_at_call 91;refine (hcr.out _).mono ?_;rintro e w3 ⟨rfl,hb3⟩;have hQ3:=Lib.hid (hQ2.out.below hb3);have hbb3:=Lib.hid (below_step hbb2.out hb3);have hB3:=Lib.hid (hB2.out.below hb3);clear hb3 d0 d1 c0 c1 c2 c3;have d0:=hQ3.out.c 0 _ rfl;have d1:=hQ3.out.c 1 _ rfl;have c0:=hB3.out.c 0 _ rfl;have c1:=hB3.out.c 1 _ rfl;have c2:=hB3.out.c 2 _ rfl;have c3:=hB3.out.c 3 _ rfl))
    go_ret
    exact ⟨by rw [hz3.out];rfl,hbb2.out⟩
  ·have hke : k = ps.length:=by omega
   have hz3 : Hid (z = sgnB b):=by
    have:=hz.out
    rw [hke,List.drop_of_length_le (by simp [Cal.sds])] at this
    exact this
   subst hke
   clear hz
   go_wp2_with fail
   go_ret
   exact ⟨by rw [hz3.out];rfl,hb.out⟩
end Go.Proofs.Ythfokpchdlcidaa
