/- What the statements rest on: definitions and walks, part 12. -/
import Derived.Test.YtoojdkaimhlcbaaGreatJ11
set_option maxRecDepth 100000
set_option maxHeartbeats 16000000
set_option linter.unusedSimpArgs false
set_option linter.unusedVariables false
namespace Go.Proofs.YtoojdkaimhlcbaaGreat
open Go Go.RowKit Go.Sort
theorem szTx (w:World):(sizeOf (Tryz.prog.elem 23)).run Tryz.prog w=.ok 1 w:=by kernel_rfl
theorem udTx:Tryz.prog.underlying 23=some (.slice (Tryz.prog.elem 23)):=by kernel_rfl
theorem txtRows_cut (zs:List Cal.Txt) (k:Nat):(txtRows zs).take k=txtRows (zs.take k)∧(txtRows zs).drop k=txtRows (zs.drop k):=by unfold txtRows;rw[List.map_take,List.map_drop];exact⟨rfl,rfl⟩
def abT (zs:List Cal.Txt) (d:Cal.Txt) (q:Nat):Prop:=∀ (j:Nat) z,q≤j→zs[j]?=some z→d<z
theorem addTx_any (w:World) (B:Nat) (v:Value) (zs:List Cal.Txt) (s:ByteArray) (h:TextsL w B v zs) (hup:zs.Pairwise (·<·)) (hz:zs.length≤100000) (hBw:B≤w.heap.size) :
  Calls Tryz.prog 32 #[v,.string s] w fun e w'=>∃ v',e=.returned v'∧TextsL w' B v' (Cal.tups (zs ++ [s.toList]))∧Below w.heap.size w w':=by
 obtain⟨A,c,rfl,hr⟩:=h.rows
 have hI0:Hid (OwnL w B 9 1 (.slice A zs.length c) (txtRows zs)):=h
 have hr0:=Lib.hid hr
 have ha0:Hid (abT zs s.toList zs.length):=fun j z hj hz=>by
  have:=(List.getElem?_eq_some_iff.1 hz).1
  omega
 clear h hr
 go_enter Tryz.func32,Tryz.ntmps32
 go_wp2_with fail
 go_loopw [5] (fun i wr=>∃ q:Nat,q≤zs.length∧i=.int .i64 q∧Hid (abT zs s.toList q)∧Hid (Below w.heap.size w wr)) (fun i _=>(intOf i).toNat)
 case atStart=>exact⟨zs.length,Nat.le_refl _,rfl,ha0,Below.refl _ _⟩
 case round =>
  clear ha0
  obtain⟨q,hq,rfl,hab,hb⟩:=hrel
  have hI:=Lib.hid (hI0.out.below hb.out)
  have hr:=Lib.hid (hr0.out.below hb.out)
  by_cases hq0:q=0
  ·have hins:Hid (Cal.tups (zs ++ [s.toList])=zs.take q ++ [s.toList] ++ zs.drop q):=Cal.tups_snoc hup (Cal.not_in_at hup hq hab.out (fun z h _=>by omega)) hq hab.out (fun z h _=>by omega)
   have hgz:decide ((0:Int)<(q:Int))=false:=by simp;omega
   have hgz2:decide (0<q)=false:=by simp;omega
   have hq00:q≤0:=by omega
   clear hab hq0
   go_wp2_with fail
   have hqi:(q:Int)≤(zs.length:Int):=by omega
   obtain⟨A1,c1,hrun1,hR1⟩:=hI.out.head udTx szTx hq
   obtain⟨A2,c2,hrun2,hR2⟩:=hI.out.tail udTx szTx hq
   rw[(txtRows_cut zs q).1] at hR1
   rw[(txtRows_cut zs q).2] at hR2
   have hr1:=Lib.hid (fun W (hb:Below wr.heap.size wr W)=>hR1.below hb)
   have hr2:=Lib.hid (fun W (hb:Below wr.heap.size wr W)=>hR2.below hb)
   clear hR1 hR2
   refine wp_region_held_drew (S:=Sx wr []) (by kernel_rfl) (Sx.mk (cs_nil _) (Below.refl _ _)).drew (fun hHeld=>?_)
   refine tkHx 1 34 ?_
   refine tkHx 2 35 ?_
   refine tkHx 3 36 ?_
   refine tkHx 5 38 ?_
   refine tkHx 8 41 ?_
   refine tkHx 9 42 ?_
   refine tkHx 10 43 ?_
   clear hrun1 hrun2
   have hmade:Hid (OwnL (wr.alloc (.cells #[] 9)).drew wr.heap.size 9 1 (.slice (some ⟨wr.heap.size,0,none⟩) 0 0) []):=OwnL.made (World.drew wr) wr.heap.size _ 1 (Nat.le_refl _)
   have hsz1:(wr.alloc (.cells #[] 9)).drew.heap.size=wr.heap.size+1:=by show (wr.alloc (.cells #[] 9)).heap.size=_;rw[World.size_alloc]
   have hsrc1:Hid (RowsAt (wr.alloc (.cells #[.string s] 9)).drew (some ⟨wr.heap.size,0,none⟩) 1 [[.string s]]):=rowsAt_new (World.drew wr) [.string s] 9
   have hsz2:(wr.alloc (.cells #[.string s] 9)).drew.heap.size=wr.heap.size+1:=by show (wr.alloc (.cells #[.string s] 9)).heap.size=_;rw[World.size_alloc]
   (refine wpAnyH_ready (rs:=[0,6]) (by decide +kernel) (by simp) ?_;refine AllReadyH.cons rfl (fun K hK=>?_) (AllReadyH.cons rfl (fun K hK=>?_) AllReadyH.nil))
   ·(rw[if_pos (by kernel_rfl)];go_simp)
    refine hK.out _ _ (hHeld.alloc _) (fun hH2=>?_)
    clear hK K hHeld
    have hHeld:=hH2
    clear hH2
    (try simp only[apS,apN,siA,scZ,scS])
    clear hsrc1 hsz2
    have ho:=hmade
    clear hmade
    generalize (wr.alloc (.cells #[] 9)).drew=Wa at *
    (refine wpAnyH_ready (rs:=[4,6]) (by decide +kernel) (by simp) ?_;refine AllReadyH.cons rfl (fun K hK=>?_) (AllReadyH.cons rfl (fun K hK=>?_) AllReadyH.nil))
    ·refine step_append_rows elemTxt (by rfl) (.tmp 33) (.tmp 36) (by rfl) (by rfl) (by rfl) ho.out (hr1.out _ hHeld.bel) (by rw[txtRows_length,List.length_take];omega) (txtRows_wid _) (txtRows_one _) (by rw[txtRows_length,List.length_take,List.length_nil];omega) (by decide) hHeld.bel.size ?_
     intro v3 Wb hown3 hg3 hob3
     refine hK.out _ _ (hHeld.grow hg3 (fun g e=>by cases e;exact Nat.le_refl _) (fun x hx=>by cases hx)) (fun hH2=>?_)
     clear hK K hHeld
     have hHeld:=hH2
     clear hH2
     (try simp only[apS,apN,siA,scZ,scS])
     have hx3:=rowsAt_new Wb [.string s] 9
     have ho3:=Lib.hid (OwnL.below hown3 (below_alloc Wb (.cells #[.string s] 9)))
     clear hown3 hg3 hob3 hsz1 ho
     (refine wpAnyH_ready (rs:=[6]) (by decide +kernel) (by simp) ?_;refine AllReadyH.cons rfl (fun K hK=>?_) AllReadyH.nil)
     (rw[if_pos (by kernel_rfl)];go_simp)
     refine hK.out _ _ (hHeld.alloc _) (fun hH2=>?_)
     clear hK K hHeld
     have hHeld:=hH2
     clear hH2
     (try simp only[apS,apN,siA,scZ,scS])
     have hs3:=Lib.hid hx3
     clear hx3
     generalize Wb.alloc (.cells #[.string s] 9)=Wc at *
     (refine wpAnyH_hide (fun _ _ _ _ _ h=>h) (fun Q0 hp0 hQ0=>?_))
     (refine wpAnyH_ready (rs:=[7]) (by decide +kernel) (by simp) ?_;refine AllReadyH.cons rfl (fun K hK=>?_) AllReadyH.nil)
     refine step_append_rows elemTxt (by rfl) (.tmp 37) (.tmp 39) (by rfl) (by rfl) (by rfl) ho3.out hs3.out rfl (fun r hr=>by rw[List.mem_singleton.1 hr];rfl) (fun r hr u hu=>by rw[List.mem_singleton.1 hr] at hu;rw[List.mem_singleton.1 hu];rfl) (by simp only[txtRows_length,List.length_append,List.length_take,List.length_nil,List.length_singleton];omega) (by decide) hHeld.bel.size ?_
     intro v4 w4 hown4 hg4 _
     refine hK.out _ _ (hHeld.grow hg4 (fun g e=>(OwnL.lt ho3.out g e).1) (fun x hx=>by cases hx)) (fun hH2=>?_)
     clear hK K hHeld
     have hHeld:=hH2
     clear hH2
     (try simp only[apS,apN,siA,scZ,scS])
     (refine wpAnyH_ready (rs:=[11]) (by decide +kernel) (by simp) ?_;refine AllReadyH.cons rfl (fun K hK=>?_) AllReadyH.nil)
     refine step_append_rows elemTxt (by rfl) (.tmp 40) (.tmp 43) (by rfl) (by rfl) (by rfl) hown4 (hr2.out _ hHeld.bel) (by rw[txtRows_length,List.length_drop]) (txtRows_wid _) (txtRows_one _) (by simp only[txtRows_length,List.length_append,List.length_take,List.length_drop,List.length_nil,List.length_singleton];omega) (by decide) hHeld.bel.size ?_
     intro v5 w5 hown5 hg5 _
     refine hK.out _ _ (hHeld.grow hg5 (fun g e=>(OwnL.lt hown4 g e).1) (fun x hx=>by cases hx)) (fun hH2=>?_)
     clear hK K hHeld
     have hHeld:=hH2
     clear hH2
     (try simp only[apS,apN,siA,scZ,scS])
     have hfin5:=Lib.hid (show TextsL w5 wr.heap.size v5 (zs.take q ++ [s.toList] ++ zs.drop q) from by
      show OwnL _ _ _ _ _ _
      have e:txtRows (zs.take q ++ [s.toList] ++ zs.drop q)=[] ++ txtRows (zs.take q) ++ [[.string s]] ++ txtRows (zs.drop q):=by
       rw[List.nil_append]
       unfold txtRows
       rw[List.map_append,List.map_append,List.map_singleton,encStr_of rfl]
      rw[e]
      exact hown5)
     have hb5:=Lib.hid hHeld.bel
     clear hown4 hown5 hg4 hg5
     refine tkQx 12 4 hp0 ?_
     refine wpAnyH_done (by kernel_rfl) ?_ _
     (try simp only[apS,apN,siA,scZ,scS])
     (obtain rfl:=hQ0.out;clear hp0)
     clear hHeld
     go_wp2_with fail
     go_ret
     exact⟨_,rfl,by rw[hins.out];exact OwnL.less hfin5.out (Nat.le_trans hBw hb.out.size),hb.out.trans (hb5.out.mono hb.out.size)⟩
    (rw[if_pos (by kernel_rfl)];go_simp)
    refine hK.out _ _ (hHeld.alloc _) (fun hH2=>?_)
    clear hK K hHeld
    have hHeld:=hH2
    clear hH2
    (try simp only[apS,apN,siA,scZ,scS])
    have hx3:=rowsAt_new Wa [.string s] 9
    rw[hsz1] at hx3
    replace ho:=Lib.hid (OwnL.below ho.out (below_alloc Wa (.cells #[.string s] 9)))
    clear hsz1
    generalize Wa.alloc (.cells #[.string s] 9)=Wb at *
    (refine wpAnyH_ready (rs:=[4]) (by decide +kernel) (by simp) ?_;refine AllReadyH.cons rfl (fun K hK=>?_) AllReadyH.nil)
    refine step_append_rows elemTxt (by rfl) (.tmp 33) (.tmp 36) (by rfl) (by rfl) (by rfl) ho.out (hr1.out _ hHeld.bel) (by rw[txtRows_length,List.length_take];omega) (txtRows_wid _) (txtRows_one _) (by rw[txtRows_length,List.length_take,List.length_nil];omega) (by decide) hHeld.bel.size ?_
    intro v3 Wc hown3 hg3 hob3
    refine hK.out _ _ (hHeld.grow hg3 (fun g e=>by cases e;exact Nat.le_refl _) (fun x hx=>by cases hx)) (fun hH2=>?_)
    clear hK K hHeld
    have hHeld:=hH2
    clear hH2
    (try simp only[apS,apN,siA,scZ,scS])
    have hs3:=Lib.hid (rows_far hx3 hg3 (fun a e=>by cases e;show some (wr.heap.size+1)≠some wr.heap.size;simp))
    have ho3:=Lib.hid hown3
    clear hown3 hg3 hob3 hx3 ho
    (refine wpAnyH_hide (fun _ _ _ _ _ h=>h) (fun Q0 hp0 hQ0=>?_))
    (refine wpAnyH_ready (rs:=[7]) (by decide +kernel) (by simp) ?_;refine AllReadyH.cons rfl (fun K hK=>?_) AllReadyH.nil)
    refine step_append_rows elemTxt (by rfl) (.tmp 37) (.tmp 39) (by rfl) (by rfl) (by rfl) ho3.out hs3.out rfl (fun r hr=>by rw[List.mem_singleton.1 hr];rfl) (fun r hr u hu=>by rw[List.mem_singleton.1 hr] at hu;rw[List.mem_singleton.1 hu];rfl) (by simp only[txtRows_length,List.length_append,List.length_take,List.length_nil,List.length_singleton];omega) (by decide) hHeld.bel.size ?_
    intro v4 w4 hown4 hg4 _
    refine hK.out _ _ (hHeld.grow hg4 (fun g e=>(OwnL.lt ho3.out g e).1) (fun x hx=>by cases hx)) (fun hH2=>?_)
    clear hK K hHeld
    have hHeld:=hH2
    clear hH2
    (try simp only[apS,apN,siA,scZ,scS])
    (refine wpAnyH_ready (rs:=[11]) (by decide +kernel) (by simp) ?_;refine AllReadyH.cons rfl (fun K hK=>?_) AllReadyH.nil)
    refine step_append_rows elemTxt (by rfl) (.tmp 40) (.tmp 43) (by rfl) (by rfl) (by rfl) hown4 (hr2.out _ hHeld.bel) (by rw[txtRows_length,List.length_drop]) (txtRows_wid _) (txtRows_one _) (by simp only[txtRows_length,List.length_append,List.length_take,List.length_drop,List.length_nil,List.length_singleton];omega) (by decide) hHeld.bel.size ?_
    intro v5 w5 hown5 hg5 _
    refine hK.out _ _ (hHeld.grow hg5 (fun g e=>(OwnL.lt hown4 g e).1) (fun x hx=>by cases hx)) (fun hH2=>?_)
    clear hK K hHeld
    have hHeld:=hH2
    clear hH2
    (try simp only[apS,apN,siA,scZ,scS])
    have hfin5:=Lib.hid (show TextsL w5 wr.heap.size v5 (zs.take q ++ [s.toList] ++ zs.drop q) from by
     show OwnL _ _ _ _ _ _
     have e:txtRows (zs.take q ++ [s.toList] ++ zs.drop q)=[] ++ txtRows (zs.take q) ++ [[.string s]] ++ txtRows (zs.drop q):=by
      rw[List.nil_append]
      unfold txtRows
      rw[List.map_append,List.map_append,List.map_singleton,encStr_of rfl]
     rw[e]
     exact hown5)
    have hb5:=Lib.hid hHeld.bel
    clear hown4 hown5 hg4 hg5
    refine tkQx 12 4 hp0 ?_
    refine wpAnyH_done (by kernel_rfl) ?_ _
    (try simp only[apS,apN,siA,scZ,scS])
    (obtain rfl:=hQ0.out;clear hp0)
    clear hHeld
    go_wp2_with fail
    go_ret
    exact⟨_,rfl,by rw[hins.out];exact OwnL.less hfin5.out (Nat.le_trans hBw hb.out.size),hb.out.trans (hb5.out.mono hb.out.size)⟩
   (rw[if_pos (by kernel_rfl)];go_simp)
   refine hK.out _ _ (hHeld.alloc _) (fun hH2=>?_)
   clear hK K hHeld
   have hHeld:=hH2
   clear hH2
   (try simp only[apS,apN,siA,scZ,scS])
   clear hmade hsz1
   have hx1:=hsrc1
   clear hsrc1
   generalize (wr.alloc (.cells #[.string s] 9)).drew=Wa at *
   have ho0:=OwnL.made Wa wr.heap.size 9 1 hHeld.bel.size
   rw[hsz2] at ho0
   have ho:=Lib.hid ho0
   clear ho0
   have hx3:=hx1.out.below (below_alloc Wa (.cells #[] 9))
   (refine wpAnyH_ready (rs:=[0]) (by decide +kernel) (by simp) ?_;refine AllReadyH.cons rfl (fun K hK=>?_) AllReadyH.nil)
   (rw[if_pos (by kernel_rfl)];go_simp)
   refine hK.out _ _ (hHeld.alloc _) (fun hH2=>?_)
   clear hK K hHeld
   have hHeld:=hH2
   clear hH2
   (try simp only[apS,apN,siA,scZ,scS])
   clear hsz2
   generalize Wa.alloc (.cells #[] 9)=Wb at *
   clear hx1
   (refine wpAnyH_ready (rs:=[4]) (by decide +kernel) (by simp) ?_;refine AllReadyH.cons rfl (fun K hK=>?_) AllReadyH.nil)
   refine step_append_rows elemTxt (by rfl) (.tmp 33) (.tmp 36) (by rfl) (by rfl) (by rfl) ho.out (hr1.out _ hHeld.bel) (by rw[txtRows_length,List.length_take];omega) (txtRows_wid _) (txtRows_one _) (by rw[txtRows_length,List.length_take,List.length_nil];omega) (by decide) hHeld.bel.size ?_
   intro v3 Wc hown3 hg3 hob3
   refine hK.out _ _ (hHeld.grow hg3 (fun g e=>by cases e;exact Nat.le_succ _) (fun x hx=>by cases hx)) (fun hH2=>?_)
   clear hK K hHeld
   have hHeld:=hH2
   clear hH2
   (try simp only[apS,apN,siA,scZ,scS])
   have hs3:=Lib.hid (rows_far hx3 hg3 (fun a e=>by cases e;show some wr.heap.size≠some (wr.heap.size+1);simp))
   have ho3:=Lib.hid hown3
   clear hown3 hg3 hob3 hx3 ho
   (refine wpAnyH_hide (fun _ _ _ _ _ h=>h) (fun Q0 hp0 hQ0=>?_))
   (refine wpAnyH_ready (rs:=[7]) (by decide +kernel) (by simp) ?_;refine AllReadyH.cons rfl (fun K hK=>?_) AllReadyH.nil)
   refine step_append_rows elemTxt (by rfl) (.tmp 37) (.tmp 39) (by rfl) (by rfl) (by rfl) ho3.out hs3.out rfl (fun r hr=>by rw[List.mem_singleton.1 hr];rfl) (fun r hr u hu=>by rw[List.mem_singleton.1 hr] at hu;rw[List.mem_singleton.1 hu];rfl) (by simp only[txtRows_length,List.length_append,List.length_take,List.length_nil,List.length_singleton];omega) (by decide) hHeld.bel.size ?_
   intro v4 w4 hown4 hg4 _
   refine hK.out _ _ (hHeld.grow hg4 (fun g e=>(OwnL.lt ho3.out g e).1) (fun x hx=>by cases hx)) (fun hH2=>?_)
   clear hK K hHeld
   have hHeld:=hH2
   clear hH2
   (try simp only[apS,apN,siA,scZ,scS])
   (refine wpAnyH_ready (rs:=[11]) (by decide +kernel) (by simp) ?_;refine AllReadyH.cons rfl (fun K hK=>?_) AllReadyH.nil)
   refine step_append_rows elemTxt (by rfl) (.tmp 40) (.tmp 43) (by rfl) (by rfl) (by rfl) hown4 (hr2.out _ hHeld.bel) (by rw[txtRows_length,List.length_drop]) (txtRows_wid _) (txtRows_one _) (by simp only[txtRows_length,List.length_append,List.length_take,List.length_drop,List.length_nil,List.length_singleton];omega) (by decide) hHeld.bel.size ?_
   intro v5 w5 hown5 hg5 _
   refine hK.out _ _ (hHeld.grow hg5 (fun g e=>(OwnL.lt hown4 g e).1) (fun x hx=>by cases hx)) (fun hH2=>?_)
   clear hK K hHeld
   have hHeld:=hH2
   clear hH2
   (try simp only[apS,apN,siA,scZ,scS])
   have hfin5:=Lib.hid (show TextsL w5 wr.heap.size v5 (zs.take q ++ [s.toList] ++ zs.drop q) from by
    show OwnL _ _ _ _ _ _
    have e:txtRows (zs.take q ++ [s.toList] ++ zs.drop q)=[] ++ txtRows (zs.take q) ++ [[.string s]] ++ txtRows (zs.drop q):=by
     rw[List.nil_append]
     unfold txtRows
     rw[List.map_append,List.map_append,List.map_singleton,encStr_of rfl]
    rw[e]
    exact hown5)
   have hb5:=Lib.hid hHeld.bel
   clear hown4 hown5 hg4 hg5
   refine tkQx 12 4 hp0 ?_
   refine wpAnyH_done (by kernel_rfl) ?_ _
   (try simp only[apS,apN,siA,scZ,scS])
   (obtain rfl:=hQ0.out;clear hp0)
   clear hHeld
   go_wp2_with fail
   go_ret
   exact⟨_,rfl,by rw[hins.out];exact OwnL.less hfin5.out (Nat.le_trans hBw hb.out.size),hb.out.trans (hb5.out.mono hb.out.size)⟩
  have hq1:q-1<zs.length:=by omega
  obtain⟨b2,o2,rfl,_,zb,hzb,e1⟩:=txtRow_at hr.out hq1
  have hz9:=Lib.hid (List.getElem?_eq_getElem hq1)
  rw[←hzb] at hz9
  have p1:IntKind.i64.wrap ((q:Int)-1)=(q:Int)-1:=wrap_small (by omega) (by omega)
  have p2:(1:Int)≤(q:Int):=by omega
  have p3:(0:Int)<(q:Int):=by omega
  have p4:(q:Int)-1<(zs.length:Int):=by omega
  have p5:((q:Int)-1).toNat=q-1:=by omega
  have p6:(0:Int)≤(q:Int)-1:=by omega
  have p7:0<q:=by omega
  have p8:1≤q:=by omega
  clear hzb
  cases h1:Op.bytesLess s.toList zb.toList
  ·have hle:zb.toList≤s.toList:=by
    rw[bytesLess_eq,decide_eq_false_iff_not] at h1
    exact List.not_lt.1 h1
   cases h2:(zb.toList == s.toList)
   ·have hins:Hid (Cal.tups (zs ++ [s.toList])=zs.take q ++ [s.toList] ++ zs.drop q):=by
     have hne:zb.toList≠s.toList:=by simpa using h2
     refine Cal.tups_snoc hup (Cal.not_in_at hup hq hab.out (fun z _ hz=>?_)) hq hab.out (fun z _ hz=>?_)
     ·rw[hz9.out] at hz;cases hz;exact⟨hle,hne⟩
     rw[hz9.out] at hz;cases hz;exact hle
    clear hle hq0 hz9 hab
    go_wp2_with fail
    clear e1 h1 h2 p1 p2 p3 p4 p5 p6
    have hqi:(q:Int)≤(zs.length:Int):=by omega
    obtain⟨A1,c1,hrun1,hR1⟩:=hI.out.head udTx szTx hq
    obtain⟨A2,c2,hrun2,hR2⟩:=hI.out.tail udTx szTx hq
    rw[(txtRows_cut zs q).1] at hR1
    rw[(txtRows_cut zs q).2] at hR2
    have hr1:=Lib.hid (fun W (hb:Below wr.heap.size wr W)=>hR1.below hb)
    have hr2:=Lib.hid (fun W (hb:Below wr.heap.size wr W)=>hR2.below hb)
    clear hR1 hR2
    refine wp_region_held_drew (S:=Sx wr []) (by kernel_rfl) (Sx.mk (cs_nil _) (Below.refl _ _)).drew (fun hHeld=>?_)
    refine tkHx 1 34 ?_
    refine tkHx 2 35 ?_
    refine tkHx 3 36 ?_
    refine tkHx 5 38 ?_
    refine tkHx 8 41 ?_
    refine tkHx 9 42 ?_
    refine tkHx 10 43 ?_
    clear hrun1 hrun2
    have hmade:Hid (OwnL (wr.alloc (.cells #[] 9)).drew wr.heap.size 9 1 (.slice (some ⟨wr.heap.size,0,none⟩) 0 0) []):=OwnL.made (World.drew wr) wr.heap.size _ 1 (Nat.le_refl _)
    have hsz1:(wr.alloc (.cells #[] 9)).drew.heap.size=wr.heap.size+1:=by show (wr.alloc (.cells #[] 9)).heap.size=_;rw[World.size_alloc]
    have hsrc1:Hid (RowsAt (wr.alloc (.cells #[.string s] 9)).drew (some ⟨wr.heap.size,0,none⟩) 1 [[.string s]]):=rowsAt_new (World.drew wr) [.string s] 9
    have hsz2:(wr.alloc (.cells #[.string s] 9)).drew.heap.size=wr.heap.size+1:=by show (wr.alloc (.cells #[.string s] 9)).heap.size=_;rw[World.size_alloc]
    (refine wpAnyH_ready (rs:=[0,6]) (by decide +kernel) (by simp) ?_;refine AllReadyH.cons rfl (fun K hK=>?_) (AllReadyH.cons rfl (fun K hK=>?_) AllReadyH.nil))
    ·(rw[if_pos (by kernel_rfl)];go_simp)
     refine hK.out _ _ (hHeld.alloc _) (fun hH2=>?_)
     clear hK K hHeld
     have hHeld:=hH2
     clear hH2
     (try simp only[apS,apN,siA,scZ,scS])
     clear hsrc1 hsz2
     have ho:=hmade
     clear hmade
     generalize (wr.alloc (.cells #[] 9)).drew=Wa at *
     (refine wpAnyH_ready (rs:=[4,6]) (by decide +kernel) (by simp) ?_;refine AllReadyH.cons rfl (fun K hK=>?_) (AllReadyH.cons rfl (fun K hK=>?_) AllReadyH.nil))
     ·refine step_append_rows elemTxt (by rfl) (.tmp 33) (.tmp 36) (by rfl) (by rfl) (by rfl) ho.out (hr1.out _ hHeld.bel) (by rw[txtRows_length,List.length_take];omega) (txtRows_wid _) (txtRows_one _) (by rw[txtRows_length,List.length_take,List.length_nil];omega) (by decide) hHeld.bel.size ?_
      intro v3 Wb hown3 hg3 hob3
      refine hK.out _ _ (hHeld.grow hg3 (fun g e=>by cases e;exact Nat.le_refl _) (fun x hx=>by cases hx)) (fun hH2=>?_)
      clear hK K hHeld
      have hHeld:=hH2
      clear hH2
      (try simp only[apS,apN,siA,scZ,scS])
      have hx3:=rowsAt_new Wb [.string s] 9
      have ho3:=Lib.hid (OwnL.below hown3 (below_alloc Wb (.cells #[.string s] 9)))
      clear hown3 hg3 hob3 hsz1 ho
      (refine wpAnyH_ready (rs:=[6]) (by decide +kernel) (by simp) ?_;refine AllReadyH.cons rfl (fun K hK=>?_) AllReadyH.nil)
      (rw[if_pos (by kernel_rfl)];go_simp)
      refine hK.out _ _ (hHeld.alloc _) (fun hH2=>?_)
      clear hK K hHeld
      have hHeld:=hH2
      clear hH2
      (try simp only[apS,apN,siA,scZ,scS])
      have hs3:=Lib.hid hx3
      clear hx3
      generalize Wb.alloc (.cells #[.string s] 9)=Wc at *
      (refine wpAnyH_hide (fun _ _ _ _ _ h=>h) (fun Q0 hp0 hQ0=>?_))
      (refine wpAnyH_ready (rs:=[7]) (by decide +kernel) (by simp) ?_;refine AllReadyH.cons rfl (fun K hK=>?_) AllReadyH.nil)
      refine step_append_rows elemTxt (by rfl) (.tmp 37) (.tmp 39) (by rfl) (by rfl) (by rfl) ho3.out hs3.out rfl (fun r hr=>by rw[List.mem_singleton.1 hr];rfl) (fun r hr u hu=>by rw[List.mem_singleton.1 hr] at hu;rw[List.mem_singleton.1 hu];rfl) (by simp only[txtRows_length,List.length_append,List.length_take,List.length_nil,List.length_singleton];omega) (by decide) hHeld.bel.size ?_
      intro v4 w4 hown4 hg4 _
      refine hK.out _ _ (hHeld.grow hg4 (fun g e=>(OwnL.lt ho3.out g e).1) (fun x hx=>by cases hx)) (fun hH2=>?_)
      clear hK K hHeld
      have hHeld:=hH2
      clear hH2
      (try simp only[apS,apN,siA,scZ,scS])
      (refine wpAnyH_ready (rs:=[11]) (by decide +kernel) (by simp) ?_;refine AllReadyH.cons rfl (fun K hK=>?_) AllReadyH.nil)
      refine step_append_rows elemTxt (by rfl) (.tmp 40) (.tmp 43) (by rfl) (by rfl) (by rfl) hown4 (hr2.out _ hHeld.bel) (by rw[txtRows_length,List.length_drop]) (txtRows_wid _) (txtRows_one _) (by simp only[txtRows_length,List.length_append,List.length_take,List.length_drop,List.length_nil,List.length_singleton];omega) (by decide) hHeld.bel.size ?_
      intro v5 w5 hown5 hg5 _
      refine hK.out _ _ (hHeld.grow hg5 (fun g e=>(OwnL.lt hown4 g e).1) (fun x hx=>by cases hx)) (fun hH2=>?_)
      clear hK K hHeld
      have hHeld:=hH2
      clear hH2
      (try simp only[apS,apN,siA,scZ,scS])
      have hfin5:=Lib.hid (show TextsL w5 wr.heap.size v5 (zs.take q ++ [s.toList] ++ zs.drop q) from by
       show OwnL _ _ _ _ _ _
       have e:txtRows (zs.take q ++ [s.toList] ++ zs.drop q)=[] ++ txtRows (zs.take q) ++ [[.string s]] ++ txtRows (zs.drop q):=by
        rw[List.nil_append]
        unfold txtRows
        rw[List.map_append,List.map_append,List.map_singleton,encStr_of rfl]
       rw[e]
       exact hown5)
      have hb5:=Lib.hid hHeld.bel
      clear hown4 hown5 hg4 hg5
      refine tkQx 12 4 hp0 ?_
      refine wpAnyH_done (by kernel_rfl) ?_ _
      (try simp only[apS,apN,siA,scZ,scS])
      (obtain rfl:=hQ0.out;clear hp0)
      clear hHeld
      go_wp2_with fail
      go_ret
      exact⟨_,rfl,by rw[hins.out];exact OwnL.less hfin5.out (Nat.le_trans hBw hb.out.size),hb.out.trans (hb5.out.mono hb.out.size)⟩
     (rw[if_pos (by kernel_rfl)];go_simp)
     refine hK.out _ _ (hHeld.alloc _) (fun hH2=>?_)
     clear hK K hHeld
     have hHeld:=hH2
     clear hH2
     (try simp only[apS,apN,siA,scZ,scS])
     have hx3:=rowsAt_new Wa [.string s] 9
     rw[hsz1] at hx3
     replace ho:=Lib.hid (OwnL.below ho.out (below_alloc Wa (.cells #[.string s] 9)))
     clear hsz1
     generalize Wa.alloc (.cells #[.string s] 9)=Wb at *
     (refine wpAnyH_ready (rs:=[4]) (by decide +kernel) (by simp) ?_;refine AllReadyH.cons rfl (fun K hK=>?_) AllReadyH.nil)
     refine step_append_rows elemTxt (by rfl) (.tmp 33) (.tmp 36) (by rfl) (by rfl) (by rfl) ho.out (hr1.out _ hHeld.bel) (by rw[txtRows_length,List.length_take];omega) (txtRows_wid _) (txtRows_one _) (by rw[txtRows_length,List.length_take,List.length_nil];omega) (by decide) hHeld.bel.size ?_
     intro v3 Wc hown3 hg3 hob3
     refine hK.out _ _ (hHeld.grow hg3 (fun g e=>by cases e;exact Nat.le_refl _) (fun x hx=>by cases hx)) (fun hH2=>?_)
     clear hK K hHeld
     have hHeld:=hH2
     clear hH2
     (try simp only[apS,apN,siA,scZ,scS])
     have hs3:=Lib.hid (rows_far hx3 hg3 (fun a e=>by cases e;show some (wr.heap.size+1)≠some wr.heap.size;simp))
     have ho3:=Lib.hid hown3
     clear hown3 hg3 hob3 hx3 ho
     (refine wpAnyH_hide (fun _ _ _ _ _ h=>h) (fun Q0 hp0 hQ0=>?_))
     (refine wpAnyH_ready (rs:=[7]) (by decide +kernel) (by simp) ?_;refine AllReadyH.cons rfl (fun K hK=>?_) AllReadyH.nil)
     refine step_append_rows elemTxt (by rfl) (.tmp 37) (.tmp 39) (by rfl) (by rfl) (by rfl) ho3.out hs3.out rfl (fun r hr=>by rw[List.mem_singleton.1 hr];rfl) (fun r hr u hu=>by rw[List.mem_singleton.1 hr] at hu;rw[List.mem_singleton.1 hu];rfl) (by simp only[txtRows_length,List.length_append,List.length_take,List.length_nil,List.length_singleton];omega) (by decide) hHeld.bel.size ?_
     intro v4 w4 hown4 hg4 _
     refine hK.out _ _ (hHeld.grow hg4 (fun g e=>(OwnL.lt ho3.out g e).1) (fun x hx=>by cases hx)) (fun hH2=>?_)
     clear hK K hHeld
     have hHeld:=hH2
     clear hH2
     (try simp only[apS,apN,siA,scZ,scS])
     (refine wpAnyH_ready (rs:=[11]) (by decide +kernel) (by simp) ?_;refine AllReadyH.cons rfl (fun K hK=>?_) AllReadyH.nil)
     refine step_append_rows elemTxt (by rfl) (.tmp 40) (.tmp 43) (by rfl) (by rfl) (by rfl) hown4 (hr2.out _ hHeld.bel) (by rw[txtRows_length,List.length_drop]) (txtRows_wid _) (txtRows_one _) (by simp only[txtRows_length,List.length_append,List.length_take,List.length_drop,List.length_nil,List.length_singleton];omega) (by decide) hHeld.bel.size ?_
     intro v5 w5 hown5 hg5 _
     refine hK.out _ _ (hHeld.grow hg5 (fun g e=>(OwnL.lt hown4 g e).1) (fun x hx=>by cases hx)) (fun hH2=>?_)
     clear hK K hHeld
     have hHeld:=hH2
     clear hH2
     (try simp only[apS,apN,siA,scZ,scS])
     have hfin5:=Lib.hid (show TextsL w5 wr.heap.size v5 (zs.take q ++ [s.toList] ++ zs.drop q) from by
      show OwnL _ _ _ _ _ _
      have e:txtRows (zs.take q ++ [s.toList] ++ zs.drop q)=[] ++ txtRows (zs.take q) ++ [[.string s]] ++ txtRows (zs.drop q):=by
       rw[List.nil_append]
       unfold txtRows
       rw[List.map_append,List.map_append,List.map_singleton,encStr_of rfl]
      rw[e]
      exact hown5)
     have hb5:=Lib.hid hHeld.bel
     clear hown4 hown5 hg4 hg5
     refine tkQx 12 4 hp0 ?_
     refine wpAnyH_done (by kernel_rfl) ?_ _
     (try simp only[apS,apN,siA,scZ,scS])
     (obtain rfl:=hQ0.out;clear hp0)
     clear hHeld
     go_wp2_with fail
     go_ret
     exact⟨_,rfl,by rw[hins.out];exact OwnL.less hfin5.out (Nat.le_trans hBw hb.out.size),hb.out.trans (hb5.out.mono hb.out.size)⟩
    (rw[if_pos (by kernel_rfl)];go_simp)
    refine hK.out _ _ (hHeld.alloc _) (fun hH2=>?_)
    clear hK K hHeld
    have hHeld:=hH2
    clear hH2
    (try simp only[apS,apN,siA,scZ,scS])
    clear hmade hsz1
    have hx1:=hsrc1
    clear hsrc1
    generalize (wr.alloc (.cells #[.string s] 9)).drew=Wa at *
    have ho0:=OwnL.made Wa wr.heap.size 9 1 hHeld.bel.size
    rw[hsz2] at ho0
    have ho:=Lib.hid ho0
    clear ho0
    have hx3:=hx1.out.below (below_alloc Wa (.cells #[] 9))
    (refine wpAnyH_ready (rs:=[0]) (by decide +kernel) (by simp) ?_;refine AllReadyH.cons rfl (fun K hK=>?_) AllReadyH.nil)
    (rw[if_pos (by kernel_rfl)];go_simp)
    refine hK.out _ _ (hHeld.alloc _) (fun hH2=>?_)
    clear hK K hHeld
    have hHeld:=hH2
    clear hH2
    (try simp only[apS,apN,siA,scZ,scS])
    clear hsz2
    generalize Wa.alloc (.cells #[] 9)=Wb at *
    clear hx1
    (refine wpAnyH_ready (rs:=[4]) (by decide +kernel) (by simp) ?_;refine AllReadyH.cons rfl (fun K hK=>?_) AllReadyH.nil)
    refine step_append_rows elemTxt (by rfl) (.tmp 33) (.tmp 36) (by rfl) (by rfl) (by rfl) ho.out (hr1.out _ hHeld.bel) (by rw[txtRows_length,List.length_take];omega) (txtRows_wid _) (txtRows_one _) (by rw[txtRows_length,List.length_take,List.length_nil];omega) (by decide) hHeld.bel.size ?_
    intro v3 Wc hown3 hg3 hob3
    refine hK.out _ _ (hHeld.grow hg3 (fun g e=>by cases e;exact Nat.le_succ _) (fun x hx=>by cases hx)) (fun hH2=>?_)
    clear hK K hHeld
    have hHeld:=hH2
    clear hH2
    (try simp only[apS,apN,siA,scZ,scS])
    have hs3:=Lib.hid (rows_far hx3 hg3 (fun a e=>by cases e;show some wr.heap.size≠some (wr.heap.size+1);simp))
    have ho3:=Lib.hid hown3
    clear hown3 hg3 hob3 hx3 ho
    (refine wpAnyH_hide (fun _ _ _ _ _ h=>h) (fun Q0 hp0 hQ0=>?_))
    (refine wpAnyH_ready (rs:=[7]) (by decide +kernel) (by simp) ?_;refine AllReadyH.cons rfl (fun K hK=>?_) AllReadyH.nil)
    refine step_append_rows elemTxt (by rfl) (.tmp 37) (.tmp 39) (by rfl) (by rfl) (by rfl) ho3.out hs3.out rfl (fun r hr=>by rw[List.mem_singleton.1 hr];rfl) (fun r hr u hu=>by rw[List.mem_singleton.1 hr] at hu;rw[List.mem_singleton.1 hu];rfl) (by simp only[txtRows_length,List.length_append,List.length_take,List.length_nil,List.length_singleton];omega) (by decide) hHeld.bel.size ?_
    intro v4 w4 hown4 hg4 _
    refine hK.out _ _ (hHeld.grow hg4 (fun g e=>(OwnL.lt ho3.out g e).1) (fun x hx=>by cases hx)) (fun hH2=>?_)
    clear hK K hHeld
    have hHeld:=hH2
    clear hH2
    (try simp only[apS,apN,siA,scZ,scS])
    (refine wpAnyH_ready (rs:=[11]) (by decide +kernel) (by simp) ?_;refine AllReadyH.cons rfl (fun K hK=>?_) AllReadyH.nil)
    refine step_append_rows elemTxt (by rfl) (.tmp 40) (.tmp 43) (by rfl) (by rfl) (by rfl) hown4 (hr2.out _ hHeld.bel) (by rw[txtRows_length,List.length_drop]) (txtRows_wid _) (txtRows_one _) (by simp only[txtRows_length,List.length_append,List.length_take,List.length_drop,List.length_nil,List.length_singleton];omega) (by decide) hHeld.bel.size ?_
    intro v5 w5 hown5 hg5 _
    refine hK.out _ _ (hHeld.grow hg5 (fun g e=>(OwnL.lt hown4 g e).1) (fun x hx=>by cases hx)) (fun hH2=>?_)
    clear hK K hHeld
    have hHeld:=hH2
    clear hH2
    (try simp only[apS,apN,siA,scZ,scS])
    have hfin5:=Lib.hid (show TextsL w5 wr.heap.size v5 (zs.take q ++ [s.toList] ++ zs.drop q) from by
     show OwnL _ _ _ _ _ _
     have e:txtRows (zs.take q ++ [s.toList] ++ zs.drop q)=[] ++ txtRows (zs.take q) ++ [[.string s]] ++ txtRows (zs.drop q):=by
      rw[List.nil_append]
      unfold txtRows
      rw[List.map_append,List.map_append,List.map_singleton,encStr_of rfl]
     rw[e]
     exact hown5)
    have hb5:=Lib.hid hHeld.bel
    clear hown4 hown5 hg4 hg5
    refine tkQx 12 4 hp0 ?_
    refine wpAnyH_done (by kernel_rfl) ?_ _
    (try simp only[apS,apN,siA,scZ,scS])
    (obtain rfl:=hQ0.out;clear hp0)
    clear hHeld
    go_wp2_with fail
    go_ret
    exact⟨_,rfl,by rw[hins.out];exact OwnL.less hfin5.out (Nat.le_trans hBw hb.out.size),hb.out.trans (hb5.out.mono hb.out.size)⟩
   have hin:Hid (Cal.tups (zs ++ [s.toList])=zs):=Cal.tups_snoc_in hup (by
    have he:=hz9.out
    rw[eq_of_beq h2] at he
    exact List.mem_of_getElem? he)
   clear hle hq0 hz9 hab
   go_wp2_with fail
   go_ret
   exact⟨_,rfl,by rw[hin.out];exact hI.out,hb.out⟩
  have hnx:Hid (abT zs s.toList (q-1)):=fun j y hj hy=>by
   rcases Nat.lt_or_ge (q-1) j with h' | h'
   ·exact hab.out j y (by omega) hy
   obtain rfl:j=q-1:=by omega
   rw[hz9.out] at hy;cases hy
   rw[bytesLess_eq,decide_eq_true_iff] at h1
   exact h1
  clear hq0 hz9 hab
  go_wp2_with fail
  go_roundw
  case rel=>exact⟨q-1,by omega,by go_num,hnx,hb⟩
  case measure=>simp[intOf];omega
end Go.Proofs.YtoojdkaimhlcbaaGreat
namespace Go.Proofs.YtoojdkaimhlcbaaGreat
open Go Go.RowKit Go.Sort
theorem own_notbox {W:World} {B R:Nat} {v x1:Value} {zs:List Cal.Txt} {l:List Value} (ho:TextsL W B v zs) (hz:zs≠[]) (hr:BoxAt W R (x1 :: l)) (hx:∀ s,x1≠.string s):v.ownBlock≠some R:=by
 intro e
 obtain⟨A,c,rfl,hrow⟩:=TextsL.rows ho
 cases A with
 | none=>cases e
 | some a =>
  have e':some a.block=some R:=e
  have hl:0<zs.length:=List.length_pos_iff.2 hz
  obtain⟨b,o,hA,_,zb,_,hc⟩:=txtRow_at hrow hl
  cases hA
  have hb:b=R:=Option.some.inj e'
  rcases OwnL.own ho with ⟨_,h0 | ⟨g,cap,cur,hv,_⟩⟩
  ·cases h0.1
  simp only[Value.slice.injEq,Option.some.injEq,Addr.mk.injEq] at hv
  obtain⟨⟨rfl,rfl,_⟩,_⟩:=hv
  subst hb
  have:=hr.c 0 x1 rfl
  rw[Nat.add_zero] at hc
  rw[this] at hc
  exact hx zb (Option.some.inj hc)
structure PtQ (wp:World) (T R:Nat) (tk:List Bool) (x1 x2 v1 v2:Value) (O M:List Cal.Txt) (W:World):Prop where
 g:wp.grownBy W (some T)
 tl:T<wp.heap.size
 rl:wp.heap.size≤R
 t:BoxAt W T (tk.map .bool)
 r:BoxAt W R [x1,x2]
 o1:TextsL W wp.heap.size v1 O
 o2:TextsL W wp.heap.size v2 M
 a1:v1.ownBlock≠some R
 a2:v2.ownBlock≠some R
section
variable {wp : World} {T R : Nat} {tk : List Bool} {x1 x2 v1 v2 : Value} {O M : List Cal.Txt} {W W' : World}
theorem PtQ.below (h:PtQ wp T R tk x1 x2 v1 v2 O M W) (hb:Below W.heap.size W W'):PtQ wp T R tk x1 x2 v1 v2 O M W' :=
 ⟨h.g.trans (below_grown hb _),h.tl,h.rl,h.t.below hb,h.r.below hb,OwnL.below h.o1 hb,OwnL.below h.o2 hb,h.a1,h.a2⟩
theorem PtQ.mark (h:PtQ wp T R tk x1 x2 v1 v2 O M W) {k:Nat} (hk:k<tk.length):PtQ wp T R (tk.set k true) x1 x2 v1 v2 O M (W.setCell ⟨T,k,none⟩ (.bool true)):=by
 have hg:=grown_set W T k (.bool true)
 have n1:v1.ownBlock≠some T:=fun e=>by have:=(OwnL.lt h.o1 _ e).1;have:=h.tl;omega
 have n2:v2.ownBlock≠some T:=fun e=>by have:=(OwnL.lt h.o2 _ e).1;have:=h.tl;omega
 refine⟨h.g.trans hg,h.tl,h.rl,?_,h.r.grown hg (fun e=>by have:=h.tl;have:=h.rl;simp at e;omega),OwnL.kept h.o1 hg (own_ne n1),OwnL.kept h.o2 hg (own_ne n2),h.a1,h.a2⟩
 have:=h.t.set k (.bool true) (by rw[List.length_map];exact hk)
 rw[←List.map_set] at this
 exact this
theorem PtQ.put1 {v':Value} {O':List Cal.Txt} (h:PtQ wp T R tk x1 x2 v1 v2 O M W) (hb:Below W.heap.size W W') (ho:TextsL W' wp.heap.size v' O') (hz:O'≠[]) (hx:∀ s,x1≠.string s):PtQ wp T R tk x1 x2 v' v2 O' M W':=by
 have h':=h.below hb
 exact⟨h'.g,h'.tl,h'.rl,h'.t,h'.r,ho,h'.o2,own_notbox ho hz h'.r hx,h'.a2⟩
theorem PtQ.put2 {v':Value} {M':List Cal.Txt} (h:PtQ wp T R tk x1 x2 v1 v2 O M W) (hb:Below W.heap.size W W') (ho:TextsL W' wp.heap.size v' M') (hz:M'≠[]) (hx:∀ s,x1≠.string s):PtQ wp T R tk x1 x2 v1 v' O M' W':=by
 have h':=h.below hb
 exact⟨h'.g,h'.tl,h'.rl,h'.t,h'.r,h'.o1,ho,h'.a1,own_notbox ho hz h'.r hx⟩
theorem PtQ.setR (h:PtQ wp T R tk x1 x2 v1 v2 O M W) (j:Nat) (v:Value) (hj:j<2) (y1 y2:Value) (e:[x1,x2].set j v=[y1,y2]):PtQ wp T R tk y1 y2 v1 v2 O M (W.setCell ⟨R,j,none⟩ v):=by
 have hg:=grown_set W R j v
 have hg2:wp.grownBy (W.setCell ⟨R,j,none⟩ v) (some T):=grown_two h.g hg fun b e=>by cases e;exact h.rl
 have:=h.r.set j v hj
 rw[e] at this
 exact⟨hg2,h.tl,h.rl,h.t.grown hg (fun e=>by have:=h.tl;have:=h.rl;simp at e;omega),this,OwnL.kept h.o1 hg (own_ne h.a1),OwnL.kept h.o2 hg (own_ne h.a2),h.a1,h.a2⟩
end
theorem PtQ.start {wp:World} {T:Nat} {tk:List Bool} (ht:BoxAt wp T (tk.map .bool)) (s1:ByteArray) :
  PtQ wp T (wp.heap.size+1) tk (.slice (some ⟨wp.heap.size,0,none⟩) 1 1) (.slice none 0 0) (.slice (some ⟨wp.heap.size,0,none⟩) 1 1) (.slice none 0 0) [s1.toList] []
   ((wp.alloc (.cells #[.string s1] 9)).alloc (.cells #[.slice (some ⟨wp.heap.size,0,none⟩) 1 1,.slice none 0 0] 25)):=by
 have hb:Below wp.heap.size wp ((wp.alloc (.cells #[.string s1] 9)).alloc (.cells #[.slice (some ⟨wp.heap.size,0,none⟩) 1 1,.slice none 0 0] 25)):=below_step (below_alloc _ _) (below_alloc _ _)
 have b1:=TextsL.one wp s1
 have b3:=BoxAt.new (wp.alloc (.cells #[.string s1] 9)) #[.slice (some ⟨wp.heap.size,0,none⟩) 1 1,.slice none 0 0] 25
 rw[World.size_alloc] at b3
 refine⟨below_grown hb _,ht.lt,by omega,ht.below hb,b3,OwnL.below b1 (below_alloc _ _),OwnL.nil _ _ _ _,?_,fun e=>by cases e⟩
 show some wp.heap.size≠some _;simp
theorem Cal.lenO {l:List Rn} {zs:List Cal.Txt} (f:Nat→Cal.Txt) (hu:zs.Pairwise (·<·)) (h:∀ d∈zs,∃ k,k<l.length∧f k=d):zs.length≤l.length:=by
 have e:Cal.tups (((List.range l.length).map f).filter fun d=>decide (d∈zs))=zs:=Cal.tups_eq hu fun d=>by
  rw[List.mem_filter,List.mem_map,decide_eq_true_iff]
  constructor
  ·intro hd
   obtain⟨k,hk,e⟩:=h d hd
   exact⟨⟨k,List.mem_range.2 hk,e⟩,hd⟩
  exact fun hd=>hd.2
 have h1:=Cal.tups_length (((List.range l.length).map f).filter fun d=>decide (d∈zs))
 have h2:=List.length_filter_le (fun d=>decide (d∈zs)) ((List.range l.length).map f)
 rw[List.length_map,List.length_range] at h2
 rw[e] at h1
 omega
end Go.Proofs.YtoojdkaimhlcbaaGreat
