/- What the statements rest on: definitions and walks, part 21. -/
import Derived.Test.YthfokpchdlcidaaJ20
set_option maxRecDepth 100000
set_option maxHeartbeats 16000000
set_option linter.unusedSimpArgs false
set_option linter.unusedVariables false
namespace Go.Proofs.Ythfokpchdlcidaa
open Go Go.RowKit Go.Sort Go.Maps Go.WideMaps
theorem gSorted_any (w : World) (B : Nat) (v : Value) (zs : List Cal.Txt) (h : TextsL w B v zs) (hs : zs.length ≤ 1000000) :
  Calls Try.prog 55 #[v] w fun e w'=>∃ v',e = .returned v' ∧ TextsL w' B v' (Cal.tups zs) ∧ w.grownBy w' v.ownBlock:=by
 have hso:=Lib.hid (SortT_own w B v zs h hs)
 go_enter Try.func55,Try.ntmps55
 go_wp2_with fail
 refine hso.out.mono ?_
 rintro e w2 ⟨rfl,hs2,hg2⟩
 have hlm : (zs.mergeSort fun x y=>decide (x ≤ y)).length = zs.length:=List.length_mergeSort _
 have hcp:=Lib.hid (CompactT_own w2 B v _ hs2 (by rw [hlm];exact hs))
 clear hs2 hlm hso h
 replace hg2:=Lib.hid hg2
 go_wp2_with fail
 refine hcp.out.mono ?_
 rintro e w3 ⟨v3,rfl,hs3,hg3,_⟩
 clear hcp
 have hg:=Lib.hid (hg2.out.trans hg3)
 replace hs3:=Lib.hid hs3
 clear hg2 hg3
 go_wp2_with fail
 go_ret
 exact ⟨v3,rfl,hs3.out,hg.out⟩
theorem txtZero (w : World) : (zeroValue 54).run Try.prog w = .ok (.slice none 0 0) w:=by kernel_rfl
structure ImgI (w : World) (bm : Nat) (ls : List Rn) (f : Cal.Txt → Option Value) (W : World) : Prop where
 mp : MapIs Try.prog 9 strLit W bm ls.length f
 no : ∀ x,Cal.knownT ls x = false → f x = none
 yes : ∀ x,Cal.knownT ls x = true → ∃ v,f x = some v ∧ TextsL W (bm + 1) v (Cal.newsOf ls x)
 apart : ∀ x y u v g,x ≠ y → f x = some u → f y = some v → u.ownBlock = some g → v.ownBlock ≠ some g
 bel : Below w.heap.size w W
 bmB : w.heap.size ≤ bm
 lt : bm < W.heap.size
section
variable {w : World} {bm : Nat} {ls : List Rn} {f : Cal.Txt → Option Value} {W W' : World}
theorem ImgI.below (h : ImgI w bm ls f W) (hb : Below W.heap.size W W') : ImgI w bm ls f W' :=
 ⟨h.mp.below hb h.lt,h.no,fun x hx=>by obtain ⟨v,h1,h2⟩:=h.yes x hx;exact ⟨v,h1,h2.below hb⟩,h.apart,below_step h.bel hb,h.bmB,Nat.lt_of_lt_of_le h.lt hb.size⟩
theorem newsOf_no {ls : List Rn} {x : Cal.Txt} (h : Cal.knownT ls x = false) : Cal.newsOf ls x = []:=by
 cases hn : Cal.newsOf ls x with
 | nil=>rfl
 | cons a r=>rw [Cal.knownT_news.2 (by rw [hn];simp)] at h;cases h
theorem ImgI.read (h : ImgI w bm ls f W) (x : Cal.Txt) : TextsL W (bm + 1) ((f x).getD (.slice none 0 0)) (Cal.newsOf ls x):=by
 cases hx : Cal.knownT ls x
 ·rw [h.no x hx,newsOf_no hx];exact OwnL.nil _ _ _ _
 ·obtain ⟨v,h1,h2⟩:=h.yes x hx
  rw [h1];exact h2
theorem knownT_snoc (ls : List Rn) (r : Rn) (x : Cal.Txt) : Cal.knownT (ls ++ [r]) x = (Cal.knownT ls x || (r.old == x)):=by unfold Cal.knownT;simp
theorem ImgI.put {Wp Wq : World} {v' : Value} (h : ImgI w bm ls f W) (r : Rn) (hg : W.grownBy Wp ((f r.old).getD (.slice none 0 0)).ownBlock) (hob : v'.ownBlock = ((f r.old).getD (.slice none 0 0)).ownBlock ∨ ∃ g,v'.ownBlock = some g ∧ W.heap.size ≤ g)
  (hv : TextsL Wp (bm + 1) v' (Cal.newsOf ls r.old ++ [r.new])) (hm : MapIs Try.prog 9 strLit Wq bm (ls.length + 1) (setAt f r.old v')) (hg3 : Wp.grownBy Wq (some bm)) : ImgI w bm (ls ++ [r]) (setAt f r.old v') Wq:=by
 have hread:=h.read r.old
 have hbl : ∀ g,((f r.old).getD (.slice none 0 0)).ownBlock = some g → bm < g:=fun g e=>(OwnL.lt hread g e).1
 have far : ∀ x v,x ≠ r.old → f x = some v → v.ownBlock = none ∨ v.ownBlock ≠ ((f r.old).getD (.slice none 0 0)).ownBlock:=fun x v hx hv=>by
  cases hob' : v.ownBlock with
  | none=>exact .inl rfl
  | some g =>
   refine .inr fun e=>?_
   cases hr : f r.old with
   | none=>rw [hr] at e;cases e
   | some u =>
    rw [hr] at e
    exact h.apart x r.old v u g hx hv hr hob' (by exact e.symm)
 have old3 : ∀ x v,x ≠ r.old → f x = some v → ∀ {zs},TextsL W (bm + 1) v zs → TextsL Wq (bm + 1) v zs:=fun x v hx hv zs ht=>by
  have h2 : TextsL Wp (bm + 1) v zs:=OwnL.kept ht hg (far x v hx hv)
  refine OwnL.kept h2 hg3 ?_
  cases hob' : v.ownBlock with
  | none=>exact .inl rfl
  | some g =>
   refine .inr fun e=>?_
   cases e
   have:=(OwnL.lt ht _ hob').1
   omega
 have hlt2 : ∀ x v g,f x = some v → v.ownBlock = some g → g < W.heap.size:=fun x v g hx e=>by
  cases hk : Cal.knownT ls x
  ·rw [h.no x hk] at hx;cases hx
  ·obtain ⟨v2,h1,h2⟩:=h.yes x hk
   rw [hx] at h1;cases h1
   exact (OwnL.lt h2 g e).2
 refine ⟨by rw [List.length_append];exact hm,fun x hx=>?_,fun x hx=>?_,fun x y u v g hne hu hv' hg'=>?_,?_,h.bmB,?_⟩
 ·rw [knownT_snoc,Bool.or_eq_false_iff] at hx
  have hne : x ≠ r.old:=fun e=>by rw [e,beq_self_eq_true] at hx;cases hx.2
  rw [setAt_other _ _ hne]
  exact h.no x hx.1
 ·by_cases e : x = r.old
  ·subst e
   refine ⟨v',setAt_same _ _ _,?_⟩
   rw [Cal.newsOf_append,if_pos rfl]
   refine OwnL.kept hv hg3 ?_
   cases hob' : v'.ownBlock with
   | none=>exact .inl rfl
   | some g=>exact .inr fun e=>by cases e;have:=(OwnL.lt hv _ hob').1;omega
  ·rw [knownT_snoc,show (r.old == x) = false from beq_false_of_ne (fun h=>e h.symm),Bool.or_false] at hx
   obtain ⟨v,h1,h2⟩:=h.yes x hx
   refine ⟨v,by rw [setAt_other _ _ e];exact h1,?_⟩
   rw [Cal.newsOf_append,if_neg (fun h=>e h.symm),List.append_nil]
   exact old3 x v e h1 h2
 ·by_cases e1 : x = r.old
  ·subst e1
   rw [setAt_same] at hu
   cases hu
   rw [setAt_other _ _ (Ne.symm hne)] at hv'
   intro e2
   rcases hob with h2 | ⟨g2,h2,h3⟩
   ·rw [hg'] at h2
    cases hr : f r.old with
    | none=>rw [hr] at h2;cases h2
    | some u0=>rw [hr] at h2;exact h.apart r.old y u0 v g hne hr hv' h2.symm e2
   ·rw [hg'] at h2;cases h2
    have:=hlt2 y v g hv' e2
    omega
  ·rw [setAt_other _ _ e1] at hu
   by_cases e2 : y = r.old
   ·subst e2
    rw [setAt_same] at hv'
    cases hv'
    intro e3
    rcases hob with h2 | ⟨g2,h2,h3⟩
    ·rw [e3] at h2
     cases hr : f r.old with
     | none=>rw [hr] at h2;cases h2
     | some u0=>rw [hr] at h2;exact h.apart x r.old u u0 g hne hu hr hg' h2.symm
    ·rw [e3] at h2;cases h2
     have:=hlt2 x u g hu hg'
     omega
   ·rw [setAt_other _ _ e2] at hv'
    exact h.apart x y u v g hne hu hv' hg'
 ·have hw:=h.bmB
  have hsz:=h.bel.size
  exact (h.bel.trans (grown_below hg (fun g e=>by have:=hbl g e;omega) hsz)).trans (grown_below (v:=.slice (some ⟨bm,0,none⟩) 0 0) hg3 (fun g e=>by cases e;exact hw) (Nat.le_trans hsz hg.size))
 ·exact Nat.lt_of_lt_of_le h.lt (Nat.le_trans hg.size hg3.size)
end
theorem ImgI.start (w : World) : ImgI w w.heap.size [] (fun _=>none) (w.alloc (.map #[] 0)) :=
 ⟨MapIs.made _ _ _ _,fun _ _=>rfl,fun x h=>(by cases h),fun x y u v g _ h=>(by cases h),below_alloc _ _,Nat.le_refl _,(by simp)⟩
structure SiM (w : World) (L : List (Nat × Nat × Value)) (bm n : Nat) (f : Cal.Txt → Option Value) (W : World) : Prop where
 cs : Cs L W
 bel : Below w.heap.size w W
 mp : MapIs Try.prog 9 strLit W bm n f
 lt : bm < W.heap.size
theorem SiM.step {w : World} {L : List (Nat × Nat × Value)} {bm n : Nat} {f : Cal.Txt → Option Value} {W W' : World} (h : SiM w L bm n f W) (hb : Below W.heap.size W W') : SiM w L bm n f W' :=
 ⟨h.cs.below hb,h.bel.trans (hb.mono h.bel.size),h.mp.below hb h.lt,Nat.lt_of_lt_of_le h.lt hb.size⟩
theorem encStr_of {a : ByteArray} {t : Cal.Txt} (h : a.toList = t) : encStr t = .string a:=by
 subst h
 rw [ByteArray.toList_eq]
theorem txtRows_snoc (zs : List Cal.Txt) {a : ByteArray} {t : Cal.Txt} (h : a.toList = t) : txtRows (zs ++ [t]) = txtRows zs ++ [[.string a]]:=by
 unfold txtRows
 rw [List.map_append,List.map_singleton,encStr_of h]
theorem txtRow_at {w : World} {A : Option Addr} {zs : List Cal.Txt} (h : RowsAt w A 1 (txtRows zs)) {k : Nat} (hk : k < zs.length) : ∃ b o,A = some ⟨b,o,none⟩ ∧ b < w.heap.size ∧ ∃ zb : ByteArray,zb.toList = zs[k] ∧ w.cell? ⟨b,o + k,none⟩ = some (.string zb):=by
 obtain ⟨b,o,hA,hb,hc⟩:=h k [encStr zs[k]] (by simp [txtRows,List.getElem?_eq_getElem hk])
 have:=hc 0 _ rfl
 simp only [Nat.mul_one,Nat.add_zero] at this
 exact ⟨b,o,hA,hb,⟨zs[k].toArray⟩,by rw [ByteArray.toList_eq],this⟩
structure Txs (w : World) (N : Option Addr) (names : List Cal.Txt) : Prop where
 rows : RowsAt w N 1 (txtRows names)
 size : names.length ≤ 1000000
 len : ∀ x ∈ names,x.length ≤ maxLen
theorem Txs.below {w w' : World} {N : Option Addr} {names : List Cal.Txt} (h : Txs w N names) (hb : Below w.heap.size w w') : Txs w' N names:=⟨h.rows.below hb,h.size,h.len⟩
def Cal.iteR (R : Int) (zs : List Cal.Txt) : List Cal.Txt:=if R = 0 then zs else []
theorem gImages_any (A : Option Addr) (c : Nat) (l : List Rn) (N : Option Addr) (d : Nat) (names : List Cal.Txt) (w : World) (hl : Rns w A l) (hn : Txs w N names) :
  Calls Try.prog 22 #[.slice A l.length c,.slice N names.length d] w fun e w'=>∃ v,e = .returned (.tuple #[v,.int .i64 (Cal.imgE l names)]) ∧ TextsL w' w.heap.size v (Cal.imgR l names) ∧ Below w.heap.size w w':=by
 have hck:=Lib.hid (CheckNumbers_any A c l w hl)
 by_cases h0 : Cal.numE l = 0
 ·obtain ⟨hl200,_,_⟩:=Cal.numE_zero.1 h0
  rw [h0] at hck
  by_cases hbig : 200 < names.length
  ·have hE : Cal.imgE l names = 8:=by unfold Cal.imgE;rw [if_pos h0,if_pos hbig]
   have hR : Cal.imgR l names = []:=by unfold Cal.imgR;rw [hE];rfl
   have hbi : 200 < (names.length : Int):=by omega
   rw [hE,hR]
   clear hE hR hl hn h0
   go_enter Try.func22,Try.ntmps22
   go_wp2_with (go_at_call 53;refine hck.out.mono ?_;rintro e0 w1 ⟨rfl,hb1⟩;replace hb1:=Lib.hid hb1;clear hck)
   go_ret2
   exact ⟨_,rfl,OwnL.nil _ _ _ _,hb1.out⟩
  ·obtain ⟨R,hRR⟩ : ∃ R,Cal.imgE l names = R:=⟨_,rfl⟩
   have hR : Hid (R = Cal.imgF l (names.drop 0)):=by show _ = _;rw [← hRR];unfold Cal.imgE;rw [if_pos h0,if_neg hbig];rfl
   have hRz : Hid (Cal.imgR l names = Cal.iteR R (Cal.tups (Cal.imgL l names))):=by show _ = _;unfold Cal.imgR;rw [hRR];rfl
   have hbi : ¬ 200 < (names.length : Int):=by omega
   rw [hRR,hRz.out]
   clear hRR hRz h0
   have hmm:=@run_makeMap Try.prog
   replace hl:=Lib.hid hl
   replace hn:=Lib.hid hn
   go_enter Try.func22,Try.ntmps22
   go_wp2_with (go_at_call 53;refine hck.out.mono ?_;rintro e0 w1 ⟨rfl,hb1⟩;replace hb1:=Lib.hid hb1;clear hck)
   clear hmm
   have hI0:=Lib.hid (ImgI.start w1)
   have hst : Hid (ImgI w1 w1.heap.size (l.take 0) (fun _=>none) (w1.alloc (.map #[] 0))):=hI0
   clear hI0
   generalize hbm : w1.heap.size = bm at *
   go_loopw [26] (fun i wr=>∃ (k : Nat) (f : Cal.Txt → Option Value),k ≤ l.length ∧ i = .int .i64 k ∧ Hid (ImgI w1 bm (l.take k) f wr)) (fun i _=>l.length - (intOf i).toNat)
   case atStart=>exact ⟨0,_,Nat.zero_le _,rfl,hst⟩
   case round =>
    clear hst
    obtain ⟨k,f,hk,rfl,hI⟩:=hrel
    have hb1I:=Lib.hid (hb1.out.trans (hI.out.bel.mono hb1.out.size))
    by_cases hlt : k < l.length
    ·have hk' : l[k]? = some l[k]:=List.getElem?_eq_getElem hlt
     have htk : Hid (l.take (k + 1) = l.take k ++ [l[k]]):=by show _ = _;rw [List.take_succ_eq_append_getElem hlt]
     have hln:=hl.out.len _ (List.getElem_mem hlt)
     have hkl : (l.take k).length = k:=by rw [List.length_take];omega
     have hnl:=Cal.newsOf_len (l.take k) l[k].old
     rw [hkl] at hnl
     generalize l[k] = x at *
     obtain ⟨b,o,rfl,hbl,ao,an,ha1,ha2,c0,c1⟩:=rn_at (hl.out.rows.below hb1I.out) hk'
     have hs1 : ao.size ≤ maxLen:=by rw [size_len ha1];exact hln.1
     have hd1 : ao.data.toList = x.old:=by rw [← ha1,ByteArray.toList_eq]
     have hX:=Lib.hid (hI.out.below (below_alloc wr (.cells #[.string ao,.string an] 100)))
     have hbx:=BoxAt.new wr #[.string ao,.string an] 100
     have x0:=hbx.c 0 _ rfl
     have x1:=hbx.c 1 _ rfl
     have hki : (k : Int) < (l.length : Int):=by omega
     have hkey:=keyOf_string_mk (P:=Try.prog) (k:=9) Try.underlying9 hs1
     rw [hd1] at hkey
     obtain ⟨v0,hv0⟩ : ∃ v0,(f x.old).getD (.slice none 0 0) = v0:=⟨_,rfl⟩
     have hlook : Hid (∀ W,SiM w1 [(wr.heap.size,0,.string ao),(wr.heap.size,1,.string an)] bm (l.take k).length f W → (Instr.lookup 102 (.map (some bm)) (.string ao) false).run Try.prog W = .ok v0 W):=fun W hW=>by
      rw [← hv0]
      exact hW.mp.look (string_keyed Try.underlying9) Try.underlying102 (txtZero _) hkey
     have hS0 : SiM w1 [(wr.heap.size,0,.string ao),(wr.heap.size,1,.string an)] bm (l.take k).length f (wr.alloc (.cells #[.string ao,.string an] 100)):=⟨by simp only [cs_iff_cons];exact ⟨x0,x1,cs_nil _⟩,hX.out.bel,hX.out.mp,hX.out.lt⟩
     have hrd:=Lib.hid (hX.out.read x.old)
     have hrd0:=hI.out.read x.old
     rw [hv0] at hrd hrd0
     have hvlt:=Lib.hid (fun g (e : v0.ownBlock = some g)=>OwnL.lt hrd0 g e)
     have hbxh:=Lib.hid hbx
     clear hrd0
     replace hkey:=Lib.hid hkey
     clear hk' hln x0 x1 hbx
     replace hS0:=Lib.hid hS0
     go_wp2_with fail
     refine wp_region_heldZ (S:=SiM w1 [(wr.heap.size,0,.string ao),(wr.heap.size,1,.string an)] bm (l.take k).length f) 11 (by kernel_rfl) (hS0.out.step ((Below.refl _ _).drew)) (fun hHeld=>?_)
     replace hX:=Lib.hid (hX.out.below ((Below.refl _ _).drew))
     replace hrd:=Lib.hid (hrd.out.below ((Below.refl _ _).drew))
     replace hbxh:=Lib.hid (hbxh.out.below ((Below.refl _ _).drew))
     clear hS0
     generalize (wr.alloc (.cells #[.string ao,.string an] 100)).drew = X1 at *
     refine tkZx 0 30 ?_
     refine tkZx 1 31 ?_
     refine tkZx 2 32 ?_
     refine tkZx 3 33 ?_
     refine tkZx 4 34 ?_
     refine tkZx 5 35 ?_
     refine tkZx 6 36 ?_ (hy:=by (intro W' hSw;have hlk:=hlook.out W' hSw;go_simp;(try with_reducible rfl)))
     refine tkZx 7 37 ?_
     refine tkZx 8 38 ?_
     refine ratZ 9 (by decide +kernel) rfl (fun K hK=>?_)
     rw [if_pos (by kernel_rfl)]
     go_simp
     refine hK.out _ _ (hHeld.step (below_alloc _ _)) (fun hH2=>?_)
     clear hK K hHeld
     have hHeld:=hH2
     clear hH2
     (try simp only [apS,apN,siA,scZ,scS])
     replace hX:=Lib.hid (hX.out.below (below_alloc X1 (.cells #[.string an] 9)))
     replace hrd:=Lib.hid (hrd.out.below (below_alloc X1 (.cells #[.string an] 9)))
     replace hbxh:=Lib.hid (hbxh.out.below (below_alloc X1 (.cells #[.string an] 9)))
     have hsrc:=rowsAt_new X1 [.string an] 9
     have hbmX : bm + 1 ≤ (X1.alloc (.cells #[.string an] 9)).heap.size:=hX.out.lt
     refine ratZ 10 (by decide +kernel) rfl (fun K hK=>?_)
     refine step_append_rows elemTxt (by rfl) (.tmp 36) (.tmp 39) (by rfl) (by rfl) (by rfl) hrd.out hsrc rfl (fun r hr=>by rw [List.mem_singleton.1 hr];rfl) (fun r hr u hu=>by rw [List.mem_singleton.1 hr] at hu;rw [List.mem_singleton.1 hu];rfl) (by rw [txtRows_length,List.length_singleton];omega) (by decide) hbmX ?_
     intro v' Wp hown hg hob
     have hob2 : v'.ownBlock = v0.ownBlock ∨ ∃ g,v'.ownBlock = some g ∧ (X1.alloc (.cells #[.string an] 9)).heap.size ≤ g:=by
      rcases hob with h | h
      ·exact Or.inl h
      ·exact Or.inr ⟨_,h,Nat.le_refl _⟩
     replace hown : OwnL Wp (bm + 1) 9 1 v' (txtRows (Cal.newsOf (l.take k) x.old ++ [x.new])):=by rw [txtRows_snoc _ ha2];exact hown
     have hmp2:=hX.out.mp.kept hg (fun e=>by have:=(hvlt.out bm e.symm).1;omega)
     obtain ⟨Wq,hrun,hm3,hg3,hsz3⟩:=hmp2.store strLit_inj (string_keyed Try.underlying9) Try.underlying102 (by rw [hkl];unfold maxLen;omega) (val:=v') hkey.out
     have hI3:=Lib.hid (hX.out.put (Wp:=Wp) (Wq:=Wq) (v':=v') x (by rw [hv0];exact hg) (by rw [hv0];exact hob2) hown hm3 hg3)
     have hbx2:=hbxh.out.grown hg (fun e=>by have:=(hvlt.out _ e.symm).2;omega)
     have hbel2 : Below w1.heap.size w1 Wp:=hX.out.bel.trans (grown_below hg (fun g e=>by have:=(hvlt.out g e).1;have:=hX.out.bmB;omega) hX.out.bel.size)
     refine hK.out _ _ ⟨by simp only [cs_iff_cons];exact ⟨hbx2.c 0 _ rfl,hbx2.c 1 _ rfl,cs_nil _⟩,hbel2,hmp2,Nat.lt_of_lt_of_le hX.out.lt hg.size⟩ (fun _=>?_)
     clear hK K hHeld hob hob2 hown hmp2 hm3 hg3 hsz3 hbx2 hbel2 hg hX hrd hsrc hbxh hlook hkey
     (try simp only [apS,apN,siA,scZ,scS])
     refine ratZc 11 (by decide +kernel) rfl (by decide +kernel) (fun K hK=>?_)
     rw [if_pos (by kernel_rfl)]
     go_simp
     refine hK.out _ _ ?_
     clear hK K hrun
     (try simp only [apS,apN,siA,scZ,scS])
     refine wpAnyHY_done (by decide +kernel) ?_ _
     (try simp only [apS,apN,siA,scZ,scS])
     go_wp2_with fail
     go_roundw
     case rel=>exact ⟨k + 1,_,by omega,by go_num,by rw [htk.out];exact hI3⟩
     case measure=>simp [intOf];omega
    ·obtain rfl : k = l.length:=by omega
     rw [List.take_length] at hI
     have hread : Hid (∀ x,Cal.knownT l x = true → ∃ A c,f x = some (.slice A (Cal.newsOf l x).length c) ∧ RowsAt wr A 1 (txtRows (Cal.newsOf l x))):=fun x hx=>by
      obtain ⟨v,h1,h2⟩:=hI.out.yes x hx
      obtain ⟨A,c,rfl,hr⟩:=h2.rows
      exact ⟨A,c,h1,hr⟩
     have hnone:=Lib.hid hI.out.no
     have hmap:=Lib.hid (fun W (hb : Below wr.heap.size wr W)=>hI.out.mp.below hb hI.out.lt)
     clear hI hl hb1
     generalize wr = wo at *
     go_wp2_with fail
     go_loopw [10,44] (fun ov i wz=>∃ (k : Nat) (v : Value),k ≤ names.length ∧ i = .int .i64 k ∧ ov = v ∧ Hid (TextsL wz wo.heap.size v (Cal.imgL l (names.take k))) ∧ Hid (Below wo.heap.size wo wz) ∧ Hid (R = Cal.imgF l (names.drop k))) (fun _ i _=>names.length - (intOf i).toNat)
     case atStart=>exact ⟨0,_,Nat.zero_le _,rfl,rfl,OwnL.nil _ _ _ _,Below.refl _ _,hR⟩
     case round =>
      clear hR
      obtain ⟨k,v,hk,rfl,rfl,hO,hb,hR⟩:=hrel
      have hbz:=Lib.hid (hb1I.out.trans (hb.out.mono hb1I.out.size))
      by_cases hlt : k < names.length
      ·have htk : Hid (Cal.imgL l (names.take (k + 1)) = Cal.imgL l (names.take k) ++ Cal.newsOf l names[k]):=by show _ = _;rw [List.take_succ_eq_append_getElem hlt,Cal.imgL_append]
       have hR':=hR.out
       rw [List.drop_eq_getElem_cons hlt,Cal.imgF_cons] at hR'
       have hln:=hn.out.len _ (List.getElem_mem hlt)
       have hil:=Cal.imgL_len l (names.take k)
       rw [List.length_take,Nat.min_eq_left hk] at hil
       have hil2:=Nat.mul_le_mul (show k ≤ 200 by omega) hl200
       have hnl:=Cal.newsOf_len l names[k]
       obtain ⟨bN,oN,rfl,_,nb,hnb,e0⟩:=txtRow_at (hn.out.rows.below hbz.out) hlt
       replace hR:=Lib.hid hR'
       clear hR'
       generalize names[k] = x at *
       have hs1 : nb.size ≤ maxLen:=by rw [size_len hnb];exact hln
       have hd1 : nb.data.toList = x:=by rw [← hnb,ByteArray.toList_eq]
       have hn1:=Lib.hid (fun W=>gisName_any nb W hs1)
       rw [← nmT_of,hnb] at hn1
       have hkey:=keyOf_string_mk (P:=Try.prog) (k:=9) Try.underlying9 hs1
       rw [hd1] at hkey
       have hlk:=Lib.hid (fun W (hb : Below wo.heap.size wo W)=>(hmap.out W hb).look_ok (string_keyed Try.underlying9) Try.underlying102 (txtZero _) hkey)
       have hki : (k : Int) < (names.length : Int):=by omega
       clear hkey hd1 hs1 hnb
       cases h1 : nmT x
       ·rw [h1] at hn1 hR
        have hfin : Hid (R = 4):=hR.out
        clear hR hlk
        go_wp2_with (go_at_call 54;refine (hn1.out _).mono ?_;rintro e0 wn ⟨rfl,hbn⟩;replace hbz:=Lib.hid (below_step hbz.out hbn);clear hbn)
        go_ret2
        exact ⟨_,by rw [hfin.out];rfl,by rw [hfin.out];exact OwnL.nil _ _ _ _,hbz.out⟩
       rw [h1] at hn1 hR
       cases h2 : Cal.knownT l x
       ·rw [h2] at hR
        have hfin : Hid (R = 6):=hR.out
        have hf0:=hnone.out x h2
        rw [hf0] at hlk
        clear hR h1 h2 hf0
        go_wp2_with (go_at_call 54;refine (hn1.out _).mono ?_;rintro e0 wn ⟨rfl,hbn⟩;replace hbz:=Lib.hid (below_step hbz.out hbn);have hlk2:=hlk.out wn (below_step hb.out hbn);clear hbn)
        go_ret2
        exact ⟨_,by rw [hfin.out];rfl,by rw [hfin.out];exact OwnL.nil _ _ _ _,hbz.out⟩
       ·rw [h2] at hR
        have hnx : Hid (R = Cal.imgF l (names.drop (k + 1))):=hR.out
        obtain ⟨A7,c7,hf7,hr7⟩:=hread.out x h2
        rw [hf7] at hlk
        replace hr7:=Lib.hid hr7
        clear hR h1 h2 hf7
        go_wp2_with (first
         |(go_at_call 54;refine (hn1.out _).mono ?_;rintro e0 wn ⟨rfl,hbn⟩;have hlk2:=hlk.out wn (below_step hb.out hbn);replace hO:=Lib.hid (hO.out.below hbn);replace hb:=Lib.hid (below_step hb.out hbn);clear hbn hlk)
         |(at_builtin;clear hlk2;refine wpList_append_rows elemTxt rfl _ _ rfl rfl rfl hO.out (hr7.out.below hb.out) (txtRows_length _).symm (txtRows_wid _) (txtRows_one _) (by rw [txtRows_length,txtRows_length];omega) (by decide) hb.out.size ?_;intro v8 w8 hown8 hg8 _;have hO8:=Lib.hid (show TextsL w8 wo.heap.size v8 (Cal.imgL l (names.take k) ++ Cal.newsOf l x) from by (unfold TextsL;rw [show txtRows (Cal.imgL l (names.take k) ++ Cal.newsOf l x) = txtRows (Cal.imgL l (names.take k)) ++ txtRows (Cal.newsOf l x) from by unfold txtRows;rw [List.map_append]];exact hown8));have hb8:=Lib.hid (hb.out.trans (grown_below hg8 (fun g e=>(OwnL.lt hO.out g e).1) hb.out.size));clear hown8 hg8))
        go_roundw
        case rel=>exact ⟨k + 1,_,by omega,by go_num,rfl,by rw [htk.out];exact hO8,hb8,hnx⟩
        case measure=>simp [intOf];omega
      ·obtain rfl : k = names.length:=by omega
       have hfin : Hid (R = 0):=by show _ = _;rw [hR.out,List.drop_length];rfl
       rw [List.take_length] at hO
       have hil:=Cal.imgL_len l names
       have hil2:=Nat.mul_le_mul (show names.length ≤ 200 by omega) hl200
       clear hR
       go_wp2_with (go_at_call 55;refine (gSorted_any _ _ _ _ hO.out (by omega)).mono ?_;rintro e0 w9 ⟨v9,rfl,hs9,hg9⟩;have hb9:=Lib.hid (hbz.out.trans (grown_below hg9 (fun g e=>Nat.le_trans hb1I.out.size (OwnL.lt hO.out g e).1) hbz.out.size));replace hs9:=Lib.hid hs9;clear hg9)
       go_ret2
       exact ⟨_,by rw [hfin.out];rfl,by rw [hfin.out];exact OwnL.less hs9.out hb1I.out.size,hb9.out⟩
 ·have hE : Cal.imgE l names = Cal.numE l:=by unfold Cal.imgE;rw [if_neg h0]
  have hR : Cal.imgR l names = []:=by unfold Cal.imgR;rw [hE,if_neg h0]
  rw [hE,hR]
  clear hE hR hl hn
  have h1 : (Cal.numE l == 0) = false:=by simpa using h0
  have h2 : (Cal.numE l != 0) = true:=by simpa using h0
  generalize Cal.numE l = E at *
  go_enter Try.func22,Try.ntmps22
  go_wp2_with (go_at_call 53;refine hck.out.mono ?_;rintro e0 w1 ⟨rfl,hb1⟩;replace hb1:=Lib.hid hb1;clear hck)
  go_ret2
  exact ⟨_,rfl,OwnL.nil _ _ _ _,hb1.out⟩
end Go.Proofs.Ythfokpchdlcidaa
namespace Go.Proofs.Ythfokpchdlcidaa
open Go Go.RowKit Go.ChangeShapes Go.WideShapes Go.Deep Go.Sort
section
variable {H : Type} {enc : TypeId × Value → H} {w : World} {spare : Nat → Bool} {held : Bool} {r : Reach} {b0 : Nat} {v : Value} {d : DataW H} {ps : List MemPlace}
theorem rows1_of_open {t e : TypeId} {fuel : Nat} {cs : List Value} {x : DataW H × List MemPlace} (ht : Try.prog.underlying t = some (.slice e)) (hC : Try.prog.cellsOf e = 1) (h : DataW.trod enc Try.prog w 0 spare held fuel t cs = some x) :
  ∃ (A : Option Addr) (len cap : Nat),cs = [.slice A len cap] ∧ len ≤ cap ∧ ∀ i,i < len → ∃ (b o n : Nat),A = some ⟨b,o,none⟩ ∧ b < w.heap.size ∧ ∃ (v : Value) (y : DataW H × List MemPlace),w.cell? ⟨b,o + i,none⟩ = some v ∧ DataW.trod enc Try.prog w 0 spare held n e [v] = some y:=by
 rcases open_slice ht h with ⟨h0,_⟩ | ⟨a,len,cap,m,n,D,Pl,hcs,hb,hl,hm,hmm,hx,hi⟩
 ·exact ⟨none,0,0,h0,Nat.le_refl _,fun i hi=>by omega⟩
 ·refine ⟨some a,len,cap,hcs,hl,fun i him=>?_⟩
  have hlm : len ≤ m:=by rw [hmm];split <;> omega
  obtain ⟨cs',hc,ht'⟩:=hi i (by omega)
  obtain ⟨cs0,hc0,_⟩:=hi 0 (by omega)
  rw [hC] at hc hc0
  obtain ⟨_,hcl1,hat⟩:=World.cells?_some hc
  obtain ⟨_,hcl01,hat0⟩:=World.cells?_some hc0
  have hz : ∃ u,w.cell? (a.add 0) = some u:=by
   have h1:=hat0 0 (by omega)
   have hlen0 : 0 < cs0.length:=by omega
   rw [List.getElem?_eq_getElem hlen0] at h1
   exact ⟨_,by simpa [Addr.add] using h1⟩
  have ha : a = ⟨a.block,a.off,none⟩:=by obtain ⟨u,hu⟩:=hz;exact addr_plain hu ⟨u,hu⟩
  have hl1 : cs'.length = 1:=by omega
  obtain ⟨u,rfl⟩:=List.length_eq_one_iff.1 hl1
  refine ⟨a.block,a.off,_,by rw [← ha],?_,u,_,?_,ht'⟩
  ·obtain ⟨u,hu⟩:=hz
   obtain ⟨o,ho,_⟩:=cells_of_cell hu
   have:=(Array.getElem?_eq_some_iff.1 ho).1
   simpa [Addr.add] using this
  ·have hcell:=hat 0 (by omega)
   rw [ha] at hcell
   rw [List.getElem?_cons_zero] at hcell
   rw [← hcell,Go.Deep.add_add,← Go.WideShapes.add_plain,Nat.mul_one,Nat.add_zero]
theorem rns_of_open (hval : Value.okWide Try.prog w r b0 53 v) (h : DataW.Trod enc Try.prog w 0 spare held 53 v d ps) :
  ∃ (A : Option Addr) (l : List Rn) (c : Nat),v = .slice A l.length c ∧ RowsAt w A 2 (l.map rnR) ∧ (∀ p ∈ l,p.old.length ≤ maxLen ∧ p.new.length ≤ maxLen) ∧ l.length ≤ c:=by
 obtain ⟨A,len,cap,rfl⟩:=okWide_slice Try.underlying53 hval
 obtain ⟨fuel,hf⟩:=h
 obtain ⟨A',len',cap',hcs,hlen,hq⟩:=rows_of_open Try.underlying53 Try.underlying100 (by kernel_rfl) (by kernel_rfl) (by decide) hf
 have he : A = A' ∧ len = len' ∧ cap = cap':=by simpa [Value.cells] using hcs
 obtain ⟨rfl,rfl,rfl⟩:=he
 have h1 : ∀ i,i < len → ∃ p : Rn,(p.old.length ≤ maxLen ∧ p.new.length ≤ maxLen) ∧ ∃ b o,A = some ⟨b,o,none⟩ ∧ b < w.heap.size ∧ ∀ j v,(rnR p)[j]? = some v → w.cell? ⟨b,o + (i * 2 + j),none⟩ = some v:=fun i hi=>by
  obtain ⟨b,o,n,hA,hb,hf⟩:=hq i hi
  obtain ⟨v0,y0,c0,t0⟩:=hf 0 _ rfl
  obtain ⟨v1,y1,c1,t1⟩:=hf 1 _ rfl
  obtain ⟨s0,e0,_,g0⟩:=DataW.trod_string Try.underlying9 t0
  obtain ⟨s1,e1,_,g1⟩:=DataW.trod_string Try.underlying9 t1
  cases e0;cases e1
  refine ⟨⟨s0.toList,s1.toList⟩,⟨by rw [← size_len (a:=s0) rfl];exact g0,by rw [← size_len (a:=s1) rfl];exact g1⟩,b,o,hA,hb,fun j v hv=>?_⟩
  match j,hv with
  | 0,hv=>cases hv;rw [encStr_of rfl];exact c0
  | 1,hv=>cases hv;rw [encStr_of rfl];exact c1
  | j + 2,hv=>simp [rnR] at hv
 obtain ⟨l,hl,hq'⟩:=list_of len h1
 subst hl
 refine ⟨A,l,cap,rfl,fun k r hr=>?_,fun p hp=>?_,hlen⟩
 ·rw [List.getElem?_map] at hr
  cases hk : l[k]? with
  | none=>rw [hk] at hr;cases hr
  | some p=>rw [hk] at hr;cases hr;exact (hq' k p hk).2
 ·obtain ⟨k,hk,rfl⟩:=List.getElem_of_mem hp
  exact (hq' k _ (List.getElem?_eq_getElem hk)).1
theorem txs_of_open (hval : Value.okWide Try.prog w r b0 54 v) (h : DataW.Trod enc Try.prog w 0 spare held 54 v d ps) :
  ∃ (A : Option Addr) (l : List Cal.Txt) (c : Nat),v = .slice A l.length c ∧ RowsAt w A 1 (txtRows l) ∧ (∀ p ∈ l,p.length ≤ maxLen) ∧ l.length ≤ c:=by
 obtain ⟨A,len,cap,rfl⟩:=okWide_slice Try.underlying54 hval
 obtain ⟨fuel,hf⟩:=h
 obtain ⟨A',len',cap',hcs,hlen,hq⟩:=rows1_of_open Try.underlying54 (by kernel_rfl) hf
 have he : A = A' ∧ len = len' ∧ cap = cap':=by simpa [Value.cells] using hcs
 obtain ⟨rfl,rfl,rfl⟩:=he
 have h1 : ∀ i,i < len → ∃ p : Cal.Txt,p.length ≤ maxLen ∧ ∃ b o,A = some ⟨b,o,none⟩ ∧ b < w.heap.size ∧ ∀ j v,([encStr p])[j]? = some v → w.cell? ⟨b,o + (i * 1 + j),none⟩ = some v:=fun i hi=>by
  obtain ⟨b,o,n,hA,hb,v0,y0,c0,t0⟩:=hq i hi
  obtain ⟨s0,e0,_,g0⟩:=DataW.trod_string Try.underlying9 t0
  cases e0
  refine ⟨s0.toList,by rw [← size_len (a:=s0) rfl];exact g0,b,o,hA,hb,fun j v hv=>?_⟩
  match j,hv with
  | 0,hv=>cases hv;rw [encStr_of rfl,Nat.mul_one,Nat.add_zero];exact c0
  | j + 1,hv=>simp at hv
 obtain ⟨l,hl,hq'⟩:=list_of len h1
 subst hl
 refine ⟨A,l,cap,rfl,fun k r hr=>?_,fun p hp=>?_,hlen⟩
 ·unfold txtRows at hr
  rw [List.getElem?_map] at hr
  cases hk : l[k]? with
  | none=>rw [hk] at hr;cases hr
  | some p=>rw [hk] at hr;cases hr;exact (hq' k p hk).2
 ·obtain ⟨k,hk,rfl⟩:=List.getElem_of_mem hp
  exact (hq' k _ (List.getElem?_eq_getElem hk)).1
end
end Go.Proofs.Ythfokpchdlcidaa
namespace Go.Proofs.Ythfokpchdlcidaa
open Go Go.RowKit Go.Sort
def rlB (a b c d : ByteArray) : Bool:=Op.bytesLess a.toList c.toList || ((a.toList == c.toList) && Op.bytesLess b.toList d.toList)
theorem rlB_iff {a b c d : ByteArray} {x y : Rn} (h1 : a.toList = x.old) (h2 : b.toList = x.new) (h3 : c.toList = y.old) (h4 : d.toList = y.new) : rlB a b c d = decide (Cal.rlt x y):=by
 unfold rlB
 rw [bytesLess_eq,bytesLess_eq,h1,h2,h3,h4,Bool.eq_iff_iff,Bool.or_eq_true,Bool.and_eq_true,decide_eq_true_iff,decide_eq_true_iff,beq_iff_eq,decide_eq_true_iff]
 rfl
theorem lessB_any (a b c d : ByteArray) (w : World) : Calls Try.prog 56 #[.agg #[.string a,.string b],.agg #[.string c,.string d]] w fun e w'=>e = .returned (.bool (rlB a b c d)) ∧ Below w.heap.size w w':=by
 have hb:=Lib.hid (below_step (below_alloc w (.cells #[.string a,.string b] 100)) (below_alloc _ (.cells #[.string c,.string d] 100)))
 have hR : Hid (rlB a b c d = (Op.bytesLess a.toList c.toList || ((a.toList == c.toList) && Op.bytesLess b.toList d.toList))):=rfl
 rw [hR.out]
 clear hR
 cases h1 : Op.bytesLess a.toList c.toList
 ·cases h2 : (a.toList == c.toList)
  ·go_enter Try.func56,Try.ntmps56
   go_wp2_with fail
   go_ret
   exact ⟨rfl,hb.out⟩
  ·cases h3 : Op.bytesLess b.toList d.toList
   ·go_enter Try.func56,Try.ntmps56
    go_wp2_with fail
    go_ret
    exact ⟨rfl,hb.out⟩
   ·go_enter Try.func56,Try.ntmps56
    go_wp2_with fail
    go_ret
    exact ⟨rfl,hb.out⟩
 ·go_enter Try.func56,Try.ntmps56
  go_wp2_with fail
  go_ret
  exact ⟨rfl,hb.out⟩
theorem rnLess_any (a b c d : ByteArray) (x y : Rn) (w : World) (h1 : a.toList = x.old) (h2 : b.toList = x.new) (h3 : c.toList = y.old) (h4 : d.toList = y.new) : Calls Try.prog 56 #[.agg #[.string a,.string b],.agg #[.string c,.string d]] w fun e w'=>e = .returned (.bool (decide (Cal.rlt x y))) ∧ Below w.heap.size w w':=by
 rw [← rlB_iff h1 h2 h3 h4]
 exact lessB_any a b c d w
theorem CheckNumbersR_any (A : Option Addr) (c : Nat) (l : List Rn) (w : World) (hl : Rns w A l) :
  Calls Try.prog 23 #[.slice A l.length c] w fun e w'=>e = .returned (.int .i64 (Cal.numE l)) ∧ Below w.heap.size w w':=by
 have hb0 : Hid (Below w.heap.size w w):=Below.refl _ _
 by_cases hbig : 200 < l.length
 ·have hR : Cal.numE l = 8:=by unfold Cal.numE;rw [if_pos hbig]
  have hbi : 200 < (l.length : Int):=by omega
  rw [hR]
  clear hR hl
  go_enter Try.func23,Try.ntmps23
  go_wp2_with fail
  go_ret
  exact ⟨rfl,hb0.out⟩
 ·obtain ⟨R,hRR⟩ : ∃ R,Cal.numE l = R:=⟨_,rfl⟩
  have hbi : ¬ 200 < (l.length : Int):=by omega
  have hR : Hid (R = Cal.numF (Cal.befR l 0) (l.drop 0)):=by
   show _ = _
   rw [← hRR]
   unfold Cal.numE Cal.befR
   rw [if_neg hbig]
   rfl
  rw [hRR]
  clear hRR
  replace hl:=Lib.hid hl
  go_enter Try.func23,Try.ntmps23
  go_wp2_with fail
  go_loopw [3] (fun i wr=>∃ k : Nat,k ≤ l.length ∧ i = .int .i64 k ∧ Hid (R = Cal.numF (Cal.befR l k) (l.drop k)) ∧ Hid (Below w.heap.size w wr)) (fun i _=>l.length - (intOf i).toNat)
  case atStart=>exact ⟨0,Nat.zero_le _,rfl,hR,hb0⟩
  case round =>
   clear hR hb0
   obtain ⟨k,hk,rfl,hR,hb⟩:=hrel
   by_cases hlt : k < l.length
   ·have hk' : l[k]? = some l[k]:=List.getElem?_eq_getElem hlt
    have hd:=Lib.hid (List.drop_eq_getElem_cons hlt)
    have hln:=hl.out.len _ (List.getElem_mem hlt)
    have hbs : Cal.befR l (k + 1) = some l[k]:=by rw [Cal.befR_succ];exact hk'
    have hR':=hR.out
    rw [hd.out,Cal.numF_cons,← hbs] at hR'
    replace hR:=Lib.hid hR'
    clear hR' hd hbs
    generalize l[k] = x at *
    obtain ⟨b,o,rfl,hbl,ao,an,ha1,ha2,c0,c1⟩:=rn_at (hl.out.rows.below hb.out) hk'
    have hs1 : ao.size ≤ maxLen:=by rw [size_len ha1];exact hln.1
    have hs2 : an.size ≤ maxLen:=by rw [size_len ha2];exact hln.2
    have hn1:=Lib.hid (fun W=>IsName_any ao W hs1)
    have hn2:=Lib.hid (fun W=>IsName_any an W hs2)
    rw [← nmT_of,ha1] at hn1
    rw [← nmT_of,ha2] at hn2
    have hki : (k : Int) < (l.length : Int):=by omega
    have m1 : Hid True:=trivial
    clear hk' hln hs1 hs2
    cases h1 : nmT x.old
    ·rw [h1] at hn1
     have hfin : Hid (R = 4):=by show _ = _;rw [hR.out,h1];rfl
     clear hR ha1 ha2
     go_wp2_with (go_at_call 41;(first | (clear m1;refine (hn1.out _).mono ?_;rintro e0 wn ⟨rfl,rfl⟩) | (refine (hn2.out _).mono ?_;rintro e0 wn ⟨rfl,rfl⟩)))
     go_ret
     exact ⟨ret_int hfin.out.symm,hb.out⟩
    cases h2 : nmT x.new
    ·rw [h1] at hn1
     rw [h2] at hn2
     have hfin : Hid (R = 4):=by show _ = _;rw [hR.out,h1,h2];rfl
     clear hR ha1 ha2
     go_wp2_with (go_at_call 41;(first | (clear m1;refine (hn1.out _).mono ?_;rintro e0 wn ⟨rfl,rfl⟩) | (refine (hn2.out _).mono ?_;rintro e0 wn ⟨rfl,rfl⟩)))
     go_ret
     exact ⟨ret_int hfin.out.symm,hb.out⟩
    rw [h1] at hn1
    rw [h2] at hn2
    have hR' : R = if Cal.folB (Cal.befR l k) x then Cal.numF (Cal.befR l (k + 1)) (l.drop (k + 1)) else 9:=by rw [hR.out,h1,h2];rfl
    replace hR:=Lib.hid hR'
    clear hR' h1 h2
    by_cases hk0 : k = 0
    ·subst hk0
     rw [Nat.zero_mul,Nat.add_zero] at c0 c1
     have hnx : Hid (R = Cal.numF (Cal.befR l (0 + 1)) (l.drop (0 + 1))):=by show _ = _;rw [hR.out];rfl
     clear hR ha1 ha2
     go_wp2_with (go_at_call 41;(first | (clear m1;refine (hn1.out _).mono ?_;rintro e0 wn ⟨rfl,rfl⟩) | (refine (hn2.out _).mono ?_;rintro e0 wn ⟨rfl,rfl⟩)))
     refine wp_region_held_drew (S:=Sx wr []) (by kernel_rfl) (Sx.mk (cs_nil _) (Below.refl _ _)).drew (fun hHeld=>?_)
     clear c0 c1
     refine tkHx 0 29 ?_
     refine tkHx 1 30 ?_
     refine tkHx 2 31 ?_
     refine tkFx 3 32 ?_
     refine tkFx 4 33 ?_
     refine tkFx 5 34 ?_
     refine tkFx 6 35 ?_
     refine tkFx 7 36 ?_
     refine tkFx 8 37 ?_
     refine tkFx 9 38 ?_
     refine tkFx 10 39 ?_
     refine tkFx 11 40 ?_
     refine tkFx 12 41 ?_
     refine tkFx 13 42 ?_
     refine tkHx 14 43 ?_
     refine wpAnyH_done (by kernel_rfl) ?_ _
     (try simp only [apS,apN,siA,scZ,scS])
     have hbe:=Lib.hid (hb.out.trans (hHeld.bel.mono hb.out.size))
     clear hHeld
     go_wp2_with fail
     go_roundw
     case rel=>exact ⟨1,by omega,by go_num,hnx,hbe⟩
     case measure=>simp [intOf];omega
    ·have hq1 : k - 1 < l.length:=by omega
     have hbf : Cal.befR l k = some l[k - 1]:=by unfold Cal.befR;rw [if_neg hk0];exact List.getElem?_eq_getElem hq1
     have hR':=hR.out
     rw [hbf] at hR'
     replace hR:=Lib.hid hR'
     have hj' : l[k - 1]? = some l[k - 1]:=List.getElem?_eq_getElem hq1
     have hrows:=Lib.hid (fun W (hW : Below w.heap.size w W)=>rn_at (hl.out.rows.below hW) hj')
     clear hR' hbf hj'
     generalize l[k - 1] = y at *
     have p1 : IntKind.i64.wrap ((k : Int) - 1) = (k : Int) - 1:=wrap_small (by omega) (by omega)
     have p2 : (1 : Int) ≤ (k : Int):=by omega
     have p3 : (0 : Int) < (k : Int):=by omega
     have p4 : (k : Int) - 1 < (l.length : Int):=by omega
     have p5 : ((k : Int) - 1).toNat = k - 1:=by omega
     have p6 : (0 : Int) ≤ (k : Int) - 1:=by omega
     have p7 : 0 < k:=by omega
     have p8 : 1 ≤ k:=by omega
     obtain ⟨b',o',hA',hbl',bo,bn,hb1,hb2,d0,d1⟩:=hrows.out _ hb.out
     cases hA'
     have hcm:=Lib.hid (fun W=>rnLess_any bo bn ao an y x W hb1 hb2 ha1 ha2)
     have hfo : Hid (Cal.folB (some y) x = decide (Cal.rlt y x)):=rfl
     clear ha1 ha2 hb1 hb2 hrows
     generalize decide (Cal.rlt y x) = v at *
     go_wp2_with (go_at_call 41;(first | (clear m1;refine (hn1.out _).mono ?_;rintro e0 wn ⟨rfl,rfl⟩) | (refine (hn2.out _).mono ?_;rintro e0 wn ⟨rfl,rfl⟩)))
     refine wp_region_held_drew (S:=Sx wr [(b,o + (k - 1) * 2,.string bo),(b,o + (k - 1) * 2 + 1,.string bn),(b,o + k * 2,.string ao),(b,o + k * 2 + 1,.string an)]) (by kernel_rfl) (Sx.mk (by simp only [cs_iff_cons];exact ⟨d0,d1,c0,c1,cs_nil _⟩) (Below.refl _ _)).drew (fun hHeld=>?_)
     clear d0 d1 c0 c1
     (refine wpAnyH_hide (fun _ _ _ _ _ h=>h) (fun Q0 hp0 hQ0=>?_))
     refine tkQx 0 29 hp0 ?_
     refine tkQx 1 30 hp0 ?_
     refine tkQx 2 31 hp0 ?_
     refine tkQx 3 32 hp0 ?_
     refine tkQx 4 33 hp0 ?_
     refine tkQx 5 34 hp0 ?_
     refine tkQx 6 35 hp0 ?_
     refine tkQx 7 36 hp0 ?_
     refine tkQx 8 37 hp0 ?_
     refine tkQx 9 38 hp0 ?_
     refine tkQx 10 39 hp0 ?_
     refine tkQx 11 40 hp0 ?_
     (refine ratHx 12 (fun K hK=>?_);go_simp)
     refine (hcm.out _).mono ?_
     rintro e wn ⟨rfl,hbn⟩
     go_simp
     (refine hK.out _ _ (hHeld.step hbn) (fun hHeld=>?_);clear hK K;(try simp only [apS,apN,siA,scZ,scS]))
     refine tkQx 13 42 hp0 ?_
     refine tkQx 14 43 hp0 ?_
     refine wpAnyH_done (by kernel_rfl) ?_ _
     (try simp only [apS,apN,siA,scZ,scS])
     (obtain rfl:=hQ0.out;clear hp0)
     have hbe:=Lib.hid (hb.out.trans (hHeld.bel.mono hb.out.size))
     clear hHeld hcm
     cases v
     ·have hfin : Hid (R = 9):=by show _ = _;rw [hR.out,hfo.out];rfl
      clear hR hfo
      go_wp2_with fail
      go_ret
      exact ⟨ret_int hfin.out.symm,hbe.out⟩
     ·have hnx : Hid (R = Cal.numF (Cal.befR l (k + 1)) (l.drop (k + 1))):=by show _ = _;rw [hR.out,hfo.out];rfl
      clear hR hfo
      go_wp2_with fail
      go_roundw
      case rel=>exact ⟨k + 1,by omega,by go_num,hnx,hbe⟩
      case measure=>simp [intOf];omega
   ·have hfin : Hid (R = 0):=by show _ = _;rw [hR.out,List.drop_of_length_le (by omega)];cases Cal.befR l k <;> rfl
    have hge : l.length = k:=by omega
    clear hR
    go_wp2_with fail
    go_ret
    exact ⟨ret_int hfin.out.symm,hb.out⟩
theorem TextsR_any (V : Option Addr) (d : Nat) (V2 : Option Addr) (d2 : Nat) (l : List Cal.Txt) (w : World) (hA : RowsAt w V 1 (txtRows l)) (hB : RowsAt w V2 1 (txtRows l)) (hl : l.length ≤ 1000000) :
  Calls Try.prog 25 #[.slice V l.length d,.slice V2 l.length d2] w fun e w'=>e = .returned (.bool true) ∧ Below w.heap.size w w':=by
 have hb0 : Hid (Below w.heap.size w w):=Below.refl _ _
 replace hA:=Lib.hid hA
 replace hB:=Lib.hid hB
 go_enter Try.func25,Try.ntmps25
 go_wp2_with fail
 go_loopw [5] (fun kv wr=>∃ k : Nat,k ≤ l.length ∧ kv = .int .i64 k ∧ Hid (Below w.heap.size w wr)) (fun kv _=>l.length - (intOf kv).toNat)
 case atStart=>exact ⟨0,Nat.zero_le _,rfl,hb0⟩
 case round =>
  clear hb0
  obtain ⟨k,hk,rfl,hb⟩:=hrel
  by_cases hlt : k < l.length
  ·obtain ⟨b1,o1,rfl,_,s1,hs1,a0⟩:=txtRow_at (hA.out.below hb.out) hlt
   obtain ⟨b2,o2,rfl,_,s2,hs2,c0⟩:=txtRow_at (hB.out.below hb.out) hlt
   have hki : (k : Int) < (l.length : Int):=by omega
   have hne : (s1.toList == s2.toList) = true:=by rw [hs1,hs2];exact beq_self_eq_true _
   clear hs1 hs2
   go_wp2_with fail
   refine wp_region_held_drew (S:=Sx wr [(b1,o1 + k,.string s1),(b2,o2 + k,.string s2)]) (by kernel_rfl) (Sx.mk (by simp only [cs_iff_cons];exact ⟨a0,c0,cs_nil _⟩) (Below.refl _ _)).drew (fun hHeld=>?_)
   clear a0 c0
   refine tkHx 0 17 ?_
   refine tkHx 1 18 ?_
   refine tkHx 2 19 ?_
   refine tkHx 3 20 ?_
   refine tkHx 4 21 ?_
   refine tkHx 5 22 ?_
   refine tkHx 6 23 ?_
   refine tkHx 7 24 ?_
   refine tkHx 8 25 ?_
   refine wpAnyH_done (by kernel_rfl) ?_ _
   (try simp only [apS,apN,siA,scZ,scS])
   have hbe:=Lib.hid (hb.out.trans (hHeld.bel.mono hb.out.size))
   clear hHeld
   go_wp2_with fail
   go_roundw
   case rel=>exact ⟨k + 1,by omega,by go_num,hbe⟩
   case measure=>simp [intOf];omega
  ·go_wp2_with fail
   go_ret
   exact ⟨rfl,hb.out⟩
end Go.Proofs.Ythfokpchdlcidaa
namespace Go.Proofs.Ythfokpchdlcidaa
open Go Go.RowKit
theorem rows_take {w : World} {A : Option Addr} {m : Nat} {rows : List (List Value)} (h : RowsAt w A m rows) (k : Nat) : RowsAt w A m (rows.take k):=fun j r hr=>by
 refine h j r ?_
 rw [List.getElem?_take] at hr
 split at hr
 ·exact hr
 ·cases hr
theorem rows_drop {w : World} {A : Option Addr} {m : Nat} {rows : List (List Value)} (h : RowsAt w A m rows) (k : Nat) : RowsAt w (A.map (·.add (k * m))) m (rows.drop k):=fun j r hr=>by
 rw [List.getElem?_drop] at hr
 obtain ⟨b,o,hA,hb,hc⟩:=h _ r hr
 refine ⟨b,o + k * m,?_,hb,fun i v hv=>?_⟩
 ·rw [hA,Option.map_some,addr_add]
 ·have:=hc i v hv
  rw [show o + k * m + (j * m + i) = o + ((k + j) * m + i) by rw [Nat.add_mul];omega]
  exact this
theorem OwnL.capN {w : World} {B c n : Nat} {E : TypeId} {m : Nat} {A : Option Addr} {rows : List (List Value)} (h : OwnL w B E m (.slice A n c) rows) : n = rows.length ∧ n ≤ c:=by
 obtain ⟨A0,c0,hv,hr⟩:=h.form
 simp only [Value.slice.injEq] at hv
 obtain ⟨rfl,rfl,rfl⟩:=hv
 refine ⟨rfl,?_⟩
 rcases h.own.2 with ⟨h1,h2⟩ | ⟨g,cap,cur,hv,_,_,h3,_⟩
 ·omega
 ·simp only [Value.slice.injEq,true_and] at hv;omega
theorem OwnL.head {t : TypeId} {w : World} {B c n : Nat} {E : TypeId} {m : Nat} {A : Option Addr} {rows : List (List Value)} (h : OwnL w B E m (.slice A n c) rows) (hu : Try.prog.underlying t = some (.slice (Try.prog.elem t))) (hz : ∀ w,(sizeOf (Try.prog.elem t)).run Try.prog w = .ok m w) {k : Nat} (hk : k ≤ n) :
  ∃ A1 c1,(∀ w',(Instr.slice t (.slice A n c) none (some (.int .i64 k)) none).run Try.prog w' = .ok (.slice A1 k c1) w') ∧ RowsAt w A1 m (rows.take k):=by
 obtain ⟨A0,c0,hv,hr⟩:=h.form
 obtain ⟨_,hcap⟩:=h.capN
 simp only [Value.slice.injEq] at hv
 obtain ⟨rfl,rfl,rfl⟩:=hv
 have hr1:=rows_take hr k
 refine ⟨if c = 0 then A else A.map (·.add (0 * m)),c - 0,fun w'=>?_,?_⟩
 ·rw [run_slice_h w' t A rows.length c hu .i64 k (by omega) (by omega),hz]
  simp [Result.andThen,sliced]
 ·split
  ·exact hr1
  ·have:=rows_drop hr1 0
   rw [List.drop_zero] at this
   exact this
theorem OwnL.tail {t : TypeId} {w : World} {B c n : Nat} {E : TypeId} {m : Nat} {A : Option Addr} {rows : List (List Value)} (h : OwnL w B E m (.slice A n c) rows) (hu : Try.prog.underlying t = some (.slice (Try.prog.elem t))) (hz : ∀ w,(sizeOf (Try.prog.elem t)).run Try.prog w = .ok m w) {k : Nat} (hk : k ≤ n) :
  ∃ A2 c2,(∀ w',(Instr.slice t (.slice A n c) (some (.int .i64 k)) none none).run Try.prog w' = .ok (.slice A2 (n - k) c2) w') ∧ RowsAt w A2 m (rows.drop k):=by
 obtain ⟨A0,c0,hv,hr⟩:=h.form
 obtain ⟨_,hcap⟩:=h.capN
 simp only [Value.slice.injEq] at hv
 obtain ⟨rfl,rfl,rfl⟩:=hv
 refine ⟨if c = k then A else A.map (·.add (k * m)),c - k,fun w'=>?_,?_⟩
 ·rw [run_slice_l w' t A rows.length c hu .i64 k (by omega) (by omega),hz]
  simp [Result.andThen,sliced]
 ·split
  ·have : rows.drop k = []:=List.drop_eq_nil_of_le (by omega)
   rw [this]
   exact RowsAt.nil _ _ _
  ·exact rows_drop hr k
theorem rows_far {w w' : World} {row : Option Nat} {A : Option Addr} {m : Nat} {rows : List (List Value)} (h : RowsAt w A m rows) (hg : w.grownBy w' row) (hne : ∀ a,A = some a → some a.block ≠ row) : RowsAt w' A m rows:=fun k r hr=>by
 obtain ⟨b,o,hA,hlt,hc⟩:=h k r hr
 exact ⟨b,o,hA,Nat.lt_of_lt_of_le hlt hg.size,fun j v hv=>hg.cell (hc j v hv) (show some b ≠ row from hne ⟨b,o,none⟩ hA)⟩
end Go.Proofs.Ythfokpchdlcidaa
