/- What the statements rest on: definitions and walks, part 26. -/
import Derived.Test.YthfokpchdlcidaaJ25
import Derived.Test.YthfokpchdlcidaaJ17
set_option maxRecDepth 100000
set_option maxHeartbeats 16000000
set_option linter.unusedSimpArgs false
set_option linter.unusedVariables false
namespace Go.Proofs.Ythfokpchdlcidaa
open Go Go.RowKit Go.Shelf
structure SmsI (w : World) (n : Nat) (g : Nat → Int) (W : World) : Prop where
 row : W.rowIs w.heap.size 3 n (fun j=>.int .i64 (g j))
 bel : Below w.heap.size w W
theorem SmsI.below {w : World} {n : Nat} {g : Nat → Int} {W W' : World} (h : SmsI w n g W) (hb : Below W.heap.size W W') : SmsI w n g W':=⟨h.row.of_block (hb.block _ h.row.lt),below_step h.bel hb⟩
theorem SmsI.set {w : World} {n : Nat} {g : Nat → Int} {W : World} (h : SmsI w n g W) (a : Nat) (x : Int) : SmsI w n (updR g a x) (W.setCell ⟨w.heap.size,a,none⟩ (.int .i64 x)) :=
 ⟨(h.row.set a _).congr (fun j _=>by unfold updR;split <;> rfl),h.bel.setCell (p:=⟨w.heap.size,a,none⟩) (Nat.le_refl _) _⟩
theorem SmsI.start (w : World) (n : Nat) : SmsI w n (fun _=>0) (w.alloc (.cells (madeCells #[.int .i64 0] n) 3)):=⟨World.rowIs_made w (.int .i64 0) n 3,below_alloc _ _⟩
theorem CheckHeights_any (N : Int) (A : Option Addr) (c : Nat) (l : List Lev) (B : Option Addr) (d : Nat) (fr : List (Int × Int)) (w : World) (hL : Levs w A l) (hF : RowsAt w B 2 (fr.map frR)) (hs : fr.length ≤ 1000000)
  (hv : ∀ h ∈ fr,(-9223372036854775808 ≤ h.1 ∧ h.1 ≤ 9223372036854775807) ∧ (-9223372036854775808 ≤ h.2 ∧ h.2 ≤ 9223372036854775807)) :
  Calls Try.prog 12 #[.int .i64 N,.slice A l.length c,.slice B fr.length d] w fun e w'=>e = .returned (.tuple #[.int .i64 (Cal.chkP N l fr),.int .i64 (Cal.chkE N l fr)]) ∧ Below w.heap.size w w':=by
 have hres:=Lib.hid (residuals_any N A c l B d fr w hL hF hs hv)
 obtain ⟨E,hE⟩ : ∃ E,Cal.chkE N l fr = E:=⟨_,rfl⟩
 obtain ⟨R,hR⟩ : ∃ R,Cal.chkP N l fr = R:=⟨_,rfl⟩
 rw [hE,hR]
 unfold Cal.chkE at hE
 unfold Cal.chkP at hR
 by_cases he : Cal.resE N l fr = 0
 ·rw [if_pos he] at hE hR
  have hz : Cal.netE N l = 0:=by
   unfold Cal.resE at he
   split at he
   ·assumption
   ·rename_i h;exact absurd he h
  have hse : Cal.sclE N fr = 0:=by
   unfold Cal.resE at he
   rw [if_pos hz] at he
   exact he
  obtain ⟨hn1,hn6,hl20,hlev,_⟩:=Cal.netE_zero hz
  obtain ⟨hlen,hq2,hp1,hp2,hq3⟩:=Cal.sclE_zero hse
  obtain ⟨n,rfl⟩ : ∃ n : Nat,N = (n : Int):=⟨N.toNat,by omega⟩
  have hfn : fr.length = n:=by omega
  have h0 : fr[0]? = some fr[0]:=List.getElem?_eq_getElem (by omega)
  have hnum : Cal.num0 fr = fr[0].1:=by unfold Cal.num0;rw [h0];rfl
  rw [hnum] at hE hR
  obtain ⟨bF,oF,rfl,hbF,m0,m1⟩:=fr_at hF h0
  rw [Nat.zero_mul,Nat.add_zero] at m0
  have hRL : Cal.resLN (n : Int) l fr = Cal.resL (Cal.sclP (n : Int) fr) fr l:=by unfold Cal.resLN;rw [if_pos he]
  rw [he,hRL,show Cal.resPN (n : Int) l fr = Cal.sclP (n : Int) fr from by unfold Cal.resPN;rw [if_pos hz]] at hres
  have hbox:=Lib.hid (Cal.sumsK_box hz hse)
  have hrbox:=Lib.hid (Cal.resV_box hz hse)
  rw [Int.toNat_natCast] at hE hR
  replace hlev:=Lib.hid hlev
  replace hL:=Lib.hid hL
  clear hz hse hq2 hq3 hRL he h0 hnum hF hfn
  replace hlen:=Lib.hid hlen
  have hfn : 0 < fr.length:=by have:=hlen.out;omega
  generalize Cal.sclP (n : Int) fr = p at *
  generalize fr[0].1 = nm at *
  by_cases hnm : nm = 0
  ·rw [if_pos hnm] at hE hR
   have hEE:=Lib.hid hE
   have hRR:=Lib.hid hR
   have hmk:=fun W=>mk_ints W n (by omega)
   subst hnm
   have hf0 : (0 : Int) < (fr.length : Int):=by omega
   clear hE hR
   go_enter Try.func12,Try.ntmps12
   go_wp2_with (go_at_call 39;refine hres.out.mono ?_;rintro e0 w2 ⟨vh,rfl,hH,hb2⟩;obtain ⟨A7,c7,rfl,hH7⟩:=hH.rows;replace hH7:=Lib.hid hH7;have m2:=(hb2.cell (p:=⟨bF,oF,none⟩) hbF).trans m0;replace hb2:=Lib.hid hb2;clear hres hH)
   have hS0:=Lib.hid (SmsI.start w2 n)
   rw [← Cal.sumsK_zero p fr l] at hS0
   generalize w2.alloc (.cells (madeCells #[.int .i64 0] n) 3) = W1 at *
   clear hmk
   go_loopw [36] (fun i wz=>∃ k : Nat,k ≤ l.length ∧ i = .int .i64 k ∧ Hid (SmsI w2 n (Cal.sumsK p fr l k) wz)) (fun i _=>l.length - (intOf i).toNat)
   case atStart=>exact ⟨0,Nat.zero_le _,rfl,hS0⟩
   case round =>
    clear hS0
    obtain ⟨k,hk,rfl,hS⟩:=hrel
    by_cases hlt : k < l.length
    ·have hk' : l[k]? = some l[k]:=List.getElem?_eq_getElem hlt
     have hlz:=Cal.levE_zero (hlev.out _ (List.getElem_mem hlt))
     have hkM : k < (Cal.resL p fr l).length:=by unfold Cal.resL;rw [List.length_map];exact hlt
     obtain ⟨b7,o7,rfl,hb7,r0⟩:=intsI_at hH7.out hkM
     rw [show (Cal.resL p fr l)[k] = Cal.resV p fr l[k] from List.getElem_map ..] at r0
     have hrb:=hrbox.out _ (List.getElem_mem hlt)
     have hsucc:=Cal.sumsK_succ (p:=p) (fr:=fr) hlt (by unfold Cal.edge;dsimp only;omega)
     have hsb:=hbox.out k hk
     have hki : (k : Int) < (l.length : Int):=by omega
     have hki2 : (k : Int) < ((Cal.resL p fr l).length : Int):=by omega
     generalize l[k] = x at *
     obtain ⟨b,o,rfl,hbl,c0,c1,c2,c3⟩:=lev_at (hL.out.below (hb2.out.trans (hS.out.bel.mono hb2.out.size))).rows hk'
     generalize Cal.resV p fr x = rv at *
     obtain ⟨xf,xt,xd,xw⟩:=x
     dsimp only at *
     obtain ⟨⟨f0,f1⟩,⟨t0,t1⟩,hne,-,-,wl1,wl2⟩:=hlz
     obtain ⟨f,rfl⟩ : ∃ f : Nat,xf = (f : Int):=⟨xf.toNat,by omega⟩
     obtain ⟨t,rfl⟩ : ∃ t : Nat,xt = (t : Int):=⟨xt.toNat,by omega⟩
     have hfN : f < n:=by omega
     have htN : t < n:=by omega
     have hft : ¬ f = t:=fun e=>hne (by rw [e])
     have hsuccH : Hid (updR (updR (Cal.sumsK p fr l k) t (Cal.sumsK p fr l k t + xw * rv)) f (Cal.sumsK p fr l k f - xw * rv) = Cal.sumsK p fr l (k + 1)):=hsucc
     obtain ⟨gt1,gt2⟩:=hsb t
     obtain ⟨gf1,gf2⟩:=hsb f
     have hm:=mul_le_of (a:=xw) (b:=rv) (M:=10) (N:=16400000000000000) (by omega) (by omega) hrb.1 hrb.2
     generalize hz : xw * rv = z at *
     generalize hG : Cal.sumsK p fr l k = G at *
     clear hG hsucc hsb
     have hgf : Hid (updR G t (G t + z) f = G f):=by show _ = _;unfold updR;rw [if_neg hft]
     have hw1 : IntKind.i64.wrap z = z:=wrap_small (by omega) (by omega)
     have hw1b : wrap64 z = z:=by rw [← wrap_eq];exact hw1
     have hw2 : IntKind.i64.wrap (G t + z) = G t + z:=wrap_small (by omega) (by omega)
     have hw2b : wrap64 (G t + z) = G t + z:=by rw [← wrap_eq];exact hw2
     have hw3 : IntKind.i64.wrap (G f - z) = G f - z:=wrap_small (by omega) (by omega)
     have hw3b : wrap64 (G f - z) = G f - z:=by rw [← wrap_eq];exact hw3
     have hx:=Lib.hid (BoxAt.new wr #[.int .i64 (f : Int),.int .i64 (t : Int),.int .i64 xd,.int .i64 xw] 75)
     have hS1:=Lib.hid (hS.out.below (below_alloc wr (.cells #[.int .i64 (f : Int),.int .i64 (t : Int),.int .i64 xd,.int .i64 xw] 75)))
     have hBl:=Lib.hid hS.out.row.lt
     have r1:=(hS1.out.bel.cell (p:=⟨b7,o7 + k,none⟩) hb7).trans r0
     have y0:=hx.out.c 0 _ rfl
     have y1:=hx.out.c 1 _ rfl
     have y3:=hx.out.c 3 _ rfl
     have s1:=hS1.out.row.cell htN
     have fz:=hS1.out.row.frozen t
     have hfi : (f : Int) < (n : Int):=by omega
     have hti : (t : Int) < (n : Int):=by omega
     clear hk' hS hm gt1 gt2 gf1 gf2 hrb hne
     go_wp2_with fail
     generalize hW1 : wr.alloc (.cells #[.int .i64 (f : Int),.int .i64 (t : Int),.int .i64 xd,.int .i64 xw] 75) = W1 at *
     clear hW1
     have hHB : Hid (wr.heap.size ≠ w2.heap.size):=fun e=>by have:=hBl.out;omega
     generalize wr.heap.size = Bx at *
     refine wp_region_heldZ (S:=Sx W1 [(Bx,1,.int .i64 (t : Int)),(Bx,3,.int .i64 xw),(w2.heap.size,t,.int .i64 (G t)),(b7,o7 + k,.int .i64 rv)]) 14 (by kernel_rfl) (Sx.mk (by simp only [cs_iff_cons];exact ⟨y1,y3,s1,r1,cs_nil _⟩) (Below.refl _ _)).drew (fun hHeld=>?_)
     clear y0 y1 y3 r1
     replace hS1:=Lib.hid (hS1.out.below hHeld.bel)
     replace hx:=Lib.hid (hx.out.below hHeld.bel)
     replace s1 : W1.drew.cell? _ = _:=s1
     replace fz : W1.drew.frozen? _ = _:=fz
     generalize W1.drew = Y1 at *
     refine tkZx 0 41 ?_
     refine tkZx 1 42 ?_
     refine tkZx 2 43 ?_
     refine tkZx 3 44 ?_
     refine tkZx 4 45 ?_
     refine tkZx 5 46 ?_
     refine tkZx 6 47 ?_
     refine tkZx 7 48 ?_
     refine tkZx 8 49 ?_
     refine tkZx 9 50 ?_
     refine tkZx 10 51 ?_
     refine tkZx 11 52 ?_
     refine tkZx 12 53 ?_
     refine tkZx 13 54 ?_
     (refine ratZc 14 (by decide +kernel) rfl (by decide +kernel) (fun K hK=>?_);rw [if_pos (by kernel_rfl)];go_simp;refine hK.out _ _ ?_;clear hK K;(try simp only [apS,apN,siA,scZ,scS]))
     refine wpAnyHY_done (by decide +kernel) ?_ _
     (try simp only [apS,apN,siA,scZ,scS])
     clear hHeld s1 fz
     replace hx:=Lib.hid (hx.out.aside1 (o:=t) hHB.out (.int .i64 (G t + z)))
     replace hS1:=Lib.hid (hS1.out.set t (G t + z))
     generalize Y1.setCell ⟨w2.heap.size,t,none⟩ (.int .i64 (G t + z)) = X2 at *
     have r1:=(hS1.out.bel.cell (p:=⟨b7,o7 + k,none⟩) hb7).trans r0
     have y0:=hx.out.c 0 _ rfl
     have y3:=hx.out.c 3 _ rfl
     have s1:=hS1.out.row.cell hfN
     rw [hgf.out] at s1
     have fz:=hS1.out.row.frozen f
     go_wp2_with fail
     refine wp_region_heldZ (S:=Sx X2 [(Bx,0,.int .i64 (f : Int)),(Bx,3,.int .i64 xw),(w2.heap.size,f,.int .i64 (G f)),(b7,o7 + k,.int .i64 rv)]) 14 (by kernel_rfl) (Sx.mk (by simp only [cs_iff_cons];exact ⟨y0,y3,s1,r1,cs_nil _⟩) (Below.refl _ _)).drew (fun hHeld=>?_)
     clear y0 y3 r1
     replace hS1:=Lib.hid (hS1.out.below hHeld.bel)
     replace s1 : X2.drew.cell? _ = _:=s1
     replace fz : X2.drew.frozen? _ = _:=fz
     generalize X2.drew = Y2 at *
     refine tkZx 0 55 ?_
     refine tkZx 1 56 ?_
     refine tkZx 2 57 ?_
     refine tkZx 3 58 ?_
     refine tkZx 4 59 ?_
     refine tkZx 5 60 ?_
     refine tkZx 6 61 ?_
     refine tkZx 7 62 ?_
     refine tkZx 8 63 ?_
     refine tkZx 9 64 ?_
     refine tkZx 10 65 ?_
     refine tkZx 11 66 ?_
     refine tkZx 12 67 ?_
     refine tkZx 13 68 ?_
     (refine ratZc 14 (by decide +kernel) rfl (by decide +kernel) (fun K hK=>?_);rw [if_pos (by kernel_rfl)];go_simp;refine hK.out _ _ ?_;clear hK K;(try simp only [apS,apN,siA,scZ,scS]))
     refine wpAnyHY_done (by decide +kernel) ?_ _
     (try simp only [apS,apN,siA,scZ,scS])
     clear hHeld s1 fz hx
     have hS3:=Lib.hid (hS1.out.set f (G f - z))
     rw [hsuccH.out] at hS3
     clear hS1
     generalize Y2.setCell ⟨w2.heap.size,f,none⟩ (.int .i64 (G f - z)) = X3 at *
     go_wp2_with fail
     go_roundw
     case rel=>exact ⟨k + 1,by omega,by go_num,hS3⟩
     case measure=>simp [intOf];omega
    ·obtain rfl : k = l.length:=by omega
     have hSA : Hid (Cal.sumsK p fr l l.length = Cal.sumsAll p fr l):=rfl
     rw [hSA.out] at hS
     generalize Cal.sumsAll p fr l = G at *
     have hbz : Hid (Below w.heap.size w wr):=hb2.out.trans (hS.out.bel.mono hb2.out.size)
     clear hSA hbox hrbox hlev hH7
     go_wp2_with fail
     go_loopw [72] (fun i wz=>∃ k : Nat,k ≤ n ∧ i = .int .i64 k ∧ Hid (k = 0 ∨ Cal.badP n G = Cal.badAt G (n - k) k) ∧ Hid (SmsI w2 n G wz)) (fun i _=>n - (intOf i).toNat)
     case atStart=>exact ⟨0,Nat.zero_le _,rfl,.inl rfl,hS⟩
     case round =>
      clear hS hbz
      obtain ⟨k,hk,rfl,hbp,hS⟩:=hrel
      have hbz : Hid (Below w.heap.size w wr):=hb2.out.trans (hS.out.bel.mono hb2.out.size)
      by_cases hlt : k < n
      ·have g0:=hS.out.row.cell hlt
       have hki : (k : Int) < (n : Int):=by omega
       by_cases hk0 : k = 0
       ·subst hk0
        have hnx : Hid (1 = 0 ∨ Cal.badP n G = Cal.badAt G (n - 1) 1):=.inr rfl
        clear hbp
        go_wp2_with fail
        go_roundw
        case rel=>exact ⟨1,by omega,by go_num,hnx,hS⟩
        case measure=>simp [intOf];omega
       ·have hbp2 : Cal.badP n G = Cal.badAt G (n - k) k:=by rcases hbp.out with h | h;exact absurd h hk0;exact h
        rw [show n - k = (n - (k + 1)) + 1 by omega,Cal.badAt_step] at hbp2
        have hkp : (0 : Int) < (k : Int):=by omega
        by_cases hgz : G k = 0
        ·rw [if_neg (by simpa using hgz)] at hbp2
         have hnx : Hid (k + 1 = 0 ∨ Cal.badP n G = Cal.badAt G (n - (k + 1)) (k + 1)):=.inr hbp2
         rw [hgz] at g0
         clear hbp hbp2 hgz
         go_wp2_with fail
         go_roundw
         case rel=>exact ⟨k + 1,by omega,by go_num,hnx,hS⟩
         case measure=>simp [intOf];omega
        ·rw [if_pos hgz] at hbp2
         have e1 : Hid (E = 26):=by show _ = _;rw [← hEE.out,hbp2]
         have e2 : Hid (R = (k : Int)):=by show _ = _;rw [← hRR.out,hbp2]
         have hgb : (G k == 0) = false:=by simpa using hgz
         have hgc : (G k != 0) = true:=by simpa using hgz
         clear hbp hbp2
         generalize G k = gk at *
         go_wp2_with fail
         go_ret2
         exact ⟨by rw [e1.out,e2.out];rfl,hbz.out⟩
      ·obtain rfl : k = n:=by omega
       have hbp2 : Cal.badP k G = none:=by
        rcases hbp.out with h | h
        ·omega
        ·rw [h,Nat.sub_self];rfl
       have e1 : Hid (E = 0):=by show _ = _;rw [← hEE.out,hbp2]
       have e2 : Hid (R = 0):=by show _ = _;rw [← hRR.out,hbp2]
       clear hbp hbp2
       go_wp2_with fail
       go_ret2
       exact ⟨by rw [e1.out,e2.out];rfl,hbz.out⟩
  ·rw [if_neg hnm] at hE hR
   subst hE hR
   have hnb : (nm == 0) = false:=by simpa using hnm
   have hnc : (nm != 0) = true:=by simpa using hnm
   have hf0 : (0 : Int) < (fr.length : Int):=by omega
   go_enter Try.func12,Try.ntmps12
   go_wp2_with (go_at_call 39;refine hres.out.mono ?_;rintro e0 w2 ⟨vh,rfl,hH,hb2⟩;have m2:=(hb2.cell (p:=⟨bF,oF,none⟩) hbF).trans m0;replace hb2:=Lib.hid hb2;clear hres hH)
   go_ret2
   exact ⟨rfl,hb2.out⟩
 ·rw [if_neg he] at hE hR
  have heb : (Cal.resE N l fr == 0) = false:=by simpa using he
  have hec : (Cal.resE N l fr != 0) = true:=by simpa using he
  subst hR
  rw [hE] at heb hec hres
  clear he hE
  go_enter Try.func12,Try.ntmps12
  go_wp2_with (go_at_call 39;refine hres.out.mono ?_;rintro e0 w2 ⟨vh,rfl,hH,hb2⟩;replace hb2:=Lib.hid hb2;clear hres hH)
  go_ret2
  exact ⟨rfl,hb2.out⟩
end Go.Proofs.Ythfokpchdlcidaa
namespace Go.Proofs.Ythfokpchdlcidaa
open Go Go.RowKit Go.Shelf
def Row30 (w : World) (A : Option Addr) (l : List Lev) : Prop:=RowsAt w A 4 (l.map Lev.cells)
theorem Row30.levs {w : World} {A : Option Addr} {l : List Lev} (h : Row30 w A l) (hl : l.length ≤ 1000000) : Levs w A l:=⟨h,hl⟩
end Go.Proofs.Ythfokpchdlcidaa
namespace Go.Proofs.Ythfokpchdlcidaa
open Go Go.RowKit Go.Shelf
theorem elemRow2 : Elem Try.prog 76 78 1 24:=Elem.mk' Try.underlying76 (z:=.slice none 0 0) (by kernel_rfl) rfl (by decide)
theorem cut_headM {t : TypeId} {m : Nat} (hu : Try.prog.underlying t = some (.slice (Try.prog.elem t))) (hz : ∀ w,(sizeOf (Try.prog.elem t)).run Try.prog w = .ok m w) {w : World} {A : Option Addr} {n c : Nat} {rows : List (List Value)} (hr : RowsAt w A m rows) (hc : n ≤ c) {k : Nat} (hk : k ≤ n) :
  ∃ A1 c1,(∀ w',(Instr.slice t (.slice A n c) none (some (.int .i64 (k : Int))) none).run Try.prog w' = .ok (.slice A1 k c1) w') ∧ RowsAt w A1 m (rows.take k):=by
 have hr1 : RowsAt w A m (rows.take k):=fun j r hr'=>by
  refine hr j r ?_
  rw [List.getElem?_take] at hr'
  split at hr'
  ·exact hr'
  ·cases hr'
 refine ⟨if c = 0 then A else A.map (·.add (0 * m)),c - 0,fun w'=>?_,?_⟩
 ·rw [run_slice_h w' t A n c hu .i64 k (by omega) (by omega),hz]
  simp [Result.andThen,sliced]
 ·split
  ·exact hr1
  ·intro j r hj
   obtain ⟨b,o,hA,hb,hcell⟩:=hr1 j r hj
   exact ⟨b,o,by rw [hA,Option.map_some,Nat.zero_mul];rfl,hb,hcell⟩
theorem offC_split {r : List Int} {q : Nat} : offC q r = r.take q ++ r.drop (q + 1):=by
 unfold offC
 rw [List.eraseIdx_eq_take_drop_succ]
theorem Sx.growOne {w W W' : World} {b o B m : Nat} {v u : Value} {E : TypeId} {rows : List (List Value)} (h : Sx w [(b,o,v)] W) (hO : OwnL W B E m u rows) (hg : W.grownBy W' u.ownBlock) (hB : w.heap.size ≤ B) (hb : b < w.heap.size) : Sx w [(b,o,v)] W' :=
 h.grow hg (fun g e=>Nat.le_trans hB (OwnL.lt hO g e).1) (fun x hx=>by
  rw [List.mem_singleton.1 hx]
  exact ⟨fun e=>absurd (OwnL.lt hO _ e).1 (by dsimp only;omega),Nat.lt_of_lt_of_le hb h.bel.size⟩)
theorem small_k {n k : Nat} (hk : k < n + 1) (hn : n + 1 ≤ 100) : k ≤ 4000000000 ∧ k + (n + 1 - (k + 1)) ≤ 4000000000:=by omega
theorem take_len {r : List Int} {n k : Nat} (h : r.length = n + 1) (hk : k < n + 1) : (r.take k).length = k ∧ (r.drop (k + 1)).length = n + 1 - (k + 1) ∧ (offC k r).length = n:=by
 have h1 : (r.take k).length = k:=by rw [List.length_take];omega
 have h2 : (r.drop (k + 1)).length = n + 1 - (k + 1):=by rw [List.length_drop];omega
 exact ⟨h1,h2,by rw [offC_split,List.length_append,h1,h2];omega⟩
theorem minor_take {M : List (List Int)} {q j : Nat} {R : List Int} (h1 : 1 ≤ j) (h : M[j]? = some R) : ((M.drop 1).take (j + 1 - 1)).map (offC q) = ((M.drop 1).take (j - 1)).map (offC q) ++ [offC q R]:=by
 have hl:=(List.getElem?_eq_some_iff.1 h).1
 have hk : j - 1 < (M.drop 1).length:=by rw [List.length_drop];omega
 have e : (M.drop 1)[j - 1]? = some R:=by rw [List.getElem?_drop,show 1 + (j - 1) = j by omega];exact h
 rw [show j + 1 - 1 = (j - 1) + 1 by omega,List.take_succ_eq_append_getElem hk,List.map_append,List.map_singleton]
 rw [List.getElem?_eq_getElem hk] at e
 rw [Option.some.inj e]
theorem detR_any : ∀ (n : Nat) (A : Option Addr) (c : Nat) (M : List (List Int)) (vs : List Value) (w : World),MatR w A M vs → M.length = n → n ≤ c → (∀ r ∈ M,r.length = n) → n ≤ 100 →
  Calls Try.prog 37 #[.slice A n c] w fun e w'=>e = .returned (.int .i64 (IntKind.i64.wrap (detF n M))) ∧ Below w.heap.size w w'
 | 0,A,c,M,vs,w,hM,hl,hcap,hsq,hn=>by
  have hf : Hid (IntKind.i64.wrap (detF 0 M) = 1):=rfl
  rw [hf.out]
  go_enter Try.func37,Try.ntmps37
  go_wp2_with fail
  go_ret
  exact ⟨rfl,Below.refl _ _⟩
 | n + 1,A,c,M,vs,w,hM,hl,hcap,hsq,hn=>by
  have ih:=Lib.hid (fun A c M vs w h1 h2 h3 h4=>detR_any n A c M vs w h1 h2 h3 h4 (by omega))
  obtain ⟨r,hk'⟩ : ∃ r,M[0]? = some r:=⟨M[0],List.getElem?_eq_getElem (by omega)⟩
  have hrl:=hsq _ (List.mem_of_getElem? hk')
  obtain ⟨b,o,Ai,ci,rfl,hbl,c0,hci,hrow⟩:=hM.at_ hk'
  rw [Nat.add_zero] at c0
  have hdet:=Lib.hid (detF_succ (n:=n) hk')
  have hsqm : Hid (∀ q,q < n + 1 → (minorL q M).length = n ∧ ∀ r ∈ minorL q M,r.length = n):=fun q hq=>minorL_sq hl hsq hq
  replace hrow:=Lib.hid hrow
  have hS0 : Hid (Cal.sumTo 0 (fun c=>Cal.sg c * (r[c]?.getD 0) * detF n (minorL c M)) = 0):=rfl
  have hb0 : Hid (Below w.heap.size w w):=Below.refl _ _
  have c00:=Lib.hid c0
  rw [hdet.out]
  replace hsq:=Lib.hid hsq
  replace hM:=Lib.hid hM
  replace hl:=Lib.hid hl
  clear hk' hdet
  have hz : ((n : Int) + 1 == 0) = false:=by simp;omega
  have hz2 : ¬ (n : Int) + 1 = 0:=by omega
  go_enter Try.func37,Try.ntmps37
  go_wp2_with fail
  clear c0 hz hz2
  go_loopw [3,4,5] (fun s g i wr=>∃ k : Nat,k ≤ n + 1 ∧ i = .int .i64 k ∧ s = .int .i64 (IntKind.i64.wrap (Cal.sumTo k fun c=>Cal.sg c * (r[c]?.getD 0) * detF n (minorL c M))) ∧ g = .int .i64 (Cal.sg k) ∧ Hid (Below w.heap.size w wr)) (fun _ _ i _=>n + 1 - (intOf i).toNat)
  case atStart=>exact ⟨0,Nat.zero_le _,rfl,rfl,rfl,hb0⟩
  case round =>
   clear hb0 hS0
   obtain ⟨k,hk,rfl,rfl,rfl,hb⟩:=hrel
   by_cases hlt : k < n + 1
   ·have hkr : k < r.length:=by omega
    obtain ⟨b2,o2,rfl,hb2,e0⟩:=intsI_at (hrow.out.below hb.out) hkr
    have e00:=Lib.hid e0
    have c1 : wr.cell? ⟨b,o,none⟩ = some (Value.slice (some ⟨b2,o2,none⟩) r.length ci):=(hb.out.cell (p:=⟨b,o,none⟩) hbl).trans c00.out
    have hx : r[k]?.getD 0 = r[k]:=by rw [List.getElem?_eq_getElem hkr];rfl
    have hst : Hid (Cal.sumTo (k + 1) (fun c=>Cal.sg c * (r[c]?.getD 0) * detF n (minorL c M)) = Cal.sumTo k (fun c=>Cal.sg c * (r[c]?.getD 0) * detF n (minorL c M)) + Cal.sg k * r[k] * detF n (minorL k M)):=by
     show _ = _
     rw [← hx];rfl
    have hsg:=Cal.sg_succ k
    obtain ⟨hl1,hl2⟩:=hsqm.out k hlt
    replace hl2:=Lib.hid hl2
    generalize r[k] = x at *
    generalize Cal.sumTo k (fun c=>Cal.sg c * (r[c]?.getD 0) * detF n (minorL c M)) = S at *
    generalize hS2 : Cal.sumTo (k + 1) (fun c=>Cal.sg c * (r[c]?.getD 0) * detF n (minorL c M)) = S2 at *
    have hgn : IntKind.i64.wrap (- Cal.sg k) = - Cal.sg k:=by rcases sg_val k with h | h <;> rw [h] <;> decide
    by_cases hx0 : x = 0
    ·have hf : Hid (S2 = S):=by show _ = _;rw [hst.out,hx0,Int.mul_zero,Int.zero_mul,Int.add_zero]
     clear hst hx
     subst hx0
     go_wp2_with fail
     go_roundw
     case rel=>exact ⟨k + 1,by omega,by go_num,by rw [hS2,hf.out],by rw [hsg],hb⟩
     case measure=>simp [intOf];omega
    ·have hf : Hid (IntKind.i64.wrap (IntKind.i64.wrap S + IntKind.i64.wrap (IntKind.i64.wrap (Cal.sg k * x) * IntKind.i64.wrap (detF n (minorL k M)))) = IntKind.i64.wrap S2):=by
      show _ = _
      rw [wrap_mul,wrap_mul2,wrap_add,wrap_add2,hst.out]
     clear hst hx
     have hx1 : ¬ x = 0:=hx0
     have hx2 : (x != 0) = true:=by simpa using hx0
     have hki : (k : Int) < (n : Int) + 1:=by omega
     generalize hSW : IntKind.i64.wrap S = SW at *
     replace hSW:=Lib.hid hSW
     have hO0 : Hid (MatO wr wr.heap.size (.slice none 0 0) (((M.drop 1).take (1 - 1)).map (offC k)) []):=by show MatO _ _ _ _ _;rw [Nat.sub_self,List.take_zero];exact MatO.nil _ _
     go_wp2_with fail
     clear c1 e0
     generalize hwo : wr = wo at *
     clear hwo wr
     have hbo : Hid (Below wo.heap.size wo wo):=Below.refl _ _
     go_loopw [6,7] (fun ov i wr=>∃ (j : Nat) (us : List Value) (v : Value),1 ≤ j ∧ j ≤ n + 1 ∧ i = .int .i64 j ∧ ov = v ∧ Hid (MatO wr wo.heap.size v (((M.drop 1).take (j - 1)).map (offC k)) us) ∧ Hid (Below wo.heap.size wo wr)) (fun _ i _=>n + 1 - (intOf i).toNat)
     case atStart=>exact ⟨1,[],_,Nat.le_refl _,by omega,rfl,rfl,hO0,hbo⟩
     case round =>
      clear hO0 hbo
      obtain ⟨j,us,v,hj1,hj,rfl,rfl,hO,hbq⟩:=hrel
      have hbw : Hid (Below w.heap.size w wr):=hb.out.trans (hbq.out.mono hb.out.size)
      by_cases hjlt : j < n + 1
      ·obtain ⟨R,hjM⟩ : ∃ R,M[j]? = some R:=⟨M[j]'(by rw [hl.out];exact hjlt),List.getElem?_eq_getElem (by rw [hl.out];exact hjlt)⟩
       have hRl:=hsq.out _ (List.mem_of_getElem? hjM)
       obtain ⟨b3,o3,Ar,cr,hA3,_,c3,hcr,hrow3⟩:=(hM.out.below hbw.out).at_ hjM
       cases hA3
       obtain ⟨A1,d1,hcut1,hr1⟩:=cut_headM undIntsI sizeIntI hrow3 hcr (k:=k) (by omega)
       obtain ⟨A2,d2,hcut2,_,hr2⟩:=cut_tail undIntsI sizeIntI (n:=R.length) (c:=cr) (by rw [intRows_length]) hrow3 hcr (k:=k + 1) (by omega)
       rw [hRl] at c3 hcut1 hcut2
       have hcut1' : ∀ w',(Instr.slice 78 (.slice Ar (n + 1) cr) none (some (.int .i64 (k : Int))) none).run Try.prog w' = .ok (.slice A1 k d1) w':=hcut1
       have hcut2' : ∀ w',(Instr.slice 78 (.slice Ar (n + 1) cr) (some (.int .i64 ((k : Int) + 1))) none none).run Try.prog w' = .ok (.slice A2 (n + 1 - (k + 1)) d2) w':=by
        have e : ((k + 1 : Nat) : Int) = (k : Int) + 1:=by omega
        rw [e] at hcut2
        exact hcut2
       have hk1 : IntKind.i64.wrap ((k : Int) + 1) = (k : Int) + 1:=wrap_small (by omega) (by omega)
       have hk1b : wrap64 ((k : Int) + 1) = (k : Int) + 1:=by rw [← wrap_eq];exact hk1
       rw [show (intRows R).take k = intRows (R.take k) from by unfold intRows;rw [List.map_take]] at hr1
       rw [show (intRows R).drop (k + 1) = intRows (R.drop (k + 1)) from by unfold intRows;rw [List.map_drop]] at hr2
       obtain ⟨hl1',hl2',hofl⟩:=take_len hRl hlt
       have htk:=Lib.hid (minor_take (q:=k) hj1 hjM)
       have hoff : Hid (intRows (R.take k) ++ intRows (R.drop (k + 1)) = intRows (offC k R)):=by show _ = _;rw [offC_split];unfold intRows;rw [List.map_append]
       have hol : us.length ≤ 1000:=by
        rw [hO.out.len,List.length_map,List.length_take]
        exact Nat.le_trans (Nat.min_le_left _ _) (by omega)
       have hji : (j : Int) < (n : Int) + 1:=by omega
       have hk4 : Hid (k ≤ 4000000000):=(small_k hlt hn).1
       have hk5 : Hid (k + (n + 1 - (k + 1)) ≤ 4000000000):=(small_k hlt hn).2
       have hk6 : Hid (us.length + 1 ≤ 4000000000):=Nat.le_trans (Nat.succ_le_succ hol) (by decide)
       replace hr1:=Lib.hid (hr1.below ((Below.refl _ _).drew))
       replace hr2:=Lib.hid (hr2.below ((Below.refl _ _).drew))
       have hO1:=Lib.hid (hO.out.below ((Below.refl _ _).drew))
       have hvB:=Lib.hid (fun g e=>OwnL.lt hO1.out.own g e)
       have hws : Hid (w.heap.size ≤ wr.drew.heap.size):=hbw.out.size
       have hwsO : Hid (wo.heap.size ≤ wr.drew.heap.size):=hbq.out.size
       have hwo2 : Hid (w.heap.size ≤ wo.heap.size):=hb.out.size
       have hbd : Hid (Below wo.heap.size wo wr.drew):=hbq.out.drew
       have hbl2:=Lib.hid hbl
       clear hrow3 hcut1 hcut2 hO hbq hjM hRl hcr
       go_wp2_with fail
       refine wp_region_held_drew (S:=Sx w [(b,o + j,Value.slice Ar (n + 1) cr)]) (by kernel_rfl) (Sx.mk (by simp only [cs_iff_cons];exact ⟨c3,cs_nil _⟩) hbw.out).drew (fun hHeld=>?_)
       clear c3 hbw
       generalize wr.drew = Y at *
       refine tkHx 0 30 ?_
       refine tkHx 2 32 ?_
       refine tkHx 3 33 ?_
       refine tkHx 4 34 ?_
       refine tkHx 5 35 ?_
       refine tkHx 6 36 ?_
       refine tkHx 7 37 ?_
       refine tkHx 9 39 ?_
       refine tkHx 10 40 ?_
       refine tkHx 11 41 ?_
       refine tkHx 12 42 ?_
       refine tkHx 13 43 ?_
       refine tkHx 14 44 ?_
       refine tkHx 15 45 ?_
       (refine ratHx 1 (fun K hK=>?_);go_simp)
       refine hK.out _ _ (hHeld.alloc _) (fun hHeld=>?_)
       clear hK K
       (try simp only [apS,apN,siA,scZ,scS])
       have hmade:=Lib.hid (OwnL.made Y Y.heap.size 3 1 (Nat.le_refl _))
       (refine wpAnyH_ready (rs:=[8]) (by decide +kernel) (by simp) ?_;refine AllReadyH.cons rfl (fun K hK=>?_) AllReadyH.nil)
       refine step_append_rows elemInt (by rfl) (.tmp 31) (.tmp 37) (by rfl) (by rfl) (by rfl) hmade.out (hr1.out.below (below_alloc _ _)) (by rw [intRows_length,hl1']) (intRows_wid _) (intRows_one _) (by rw [intRows_length,hl1',List.length_nil,Nat.zero_add];exact hk4.out) (by decide) (by rw [World.size_alloc];exact Nat.le_succ _) ?_
       intro v1 w5 hown5 hg5 hob5
       have hb5:=Lib.hid (((Below.refl _ _).alloc (Nat.le_refl _) _).trans (grown_below hg5 (fun g e=>(OwnL.lt hmade.out g e).1) (by rw [World.size_alloc];exact Nat.le_succ _)) : Below Y.heap.size Y w5)
       refine hK.out _ _ (hHeld.growOne hmade.out hg5 hws.out hbl2.out) (fun hHeld=>?_)
       clear hK K hg5 hob5
       (try simp only [apS,apN,siA,scZ,scS])
       (refine wpAnyH_ready (rs:=[16]) (by decide +kernel) (by simp) ?_;refine AllReadyH.cons rfl (fun K hK=>?_) AllReadyH.nil)
       refine step_append_rows elemInt (by rfl) (.tmp 38) (.tmp 45) (by rfl) (by rfl) (by rfl) hown5 (hr2.out.below hb5.out) (by rw [intRows_length,hl2'];exact (Nat.add_sub_add_right n 1 k).symm) (intRows_wid _) (intRows_one _) (by rw [intRows_length,hl2',List.nil_append,intRows_length,hl1'];exact hk5.out) (by decide) hb5.out.size ?_
       intro v2 w6 hown6 hg6 hob6
       have hb6:=Lib.hid (hb5.out.trans (grown_below hg6 (fun g e=>(OwnL.lt hown5 g e).1) hb5.out.size) : Below Y.heap.size Y w6)
       refine hK.out _ _ (hHeld.growOne hown5 hg6 hws.out hbl2.out) (fun hHeld=>?_)
       clear hK K hg6 hob6
       rw [List.nil_append,hoff.out] at hown6
       have hI6 : IntsL w6 Y.heap.size v2 (offC k R):=hown6
       obtain ⟨A3,d3,rfl,_⟩:=hI6.rows
       rw [hofl] at hI6 ⊢
       replace hI6:=Lib.hid hI6
       clear hown5 hown6 hb5
       (try simp only [apS,apN,siA,scZ,scS])
       (refine ratHx 17 (fun K hK=>?_);go_simp)
       refine hK.out _ _ (hHeld.alloc _) (fun hHeld=>?_)
       clear hK K
       (try simp only [apS,apN,siA,scZ,scS])
       have hO3:=Lib.hid ((hO1.out.below hb6.out).below (below_alloc w6 (.cells #[.slice A3 n d3] 78)))
       have hI4:=Lib.hid (hI6.out.below (below_alloc w6 (.cells #[.slice A3 n d3] 78)))
       have hsz6 : Hid (wo.heap.size ≤ (w6.alloc (.cells #[.slice A3 n d3] 78)).heap.size):=by
        show _ ≤ _
        rw [World.size_alloc]
        exact Nat.le_succ_of_le (Nat.le_trans hwsO.out hb6.out.size)
       (refine wpAnyH_ready (rs:=[18]) (by decide +kernel) (by simp) ?_;refine AllReadyH.cons rfl (fun K hK=>?_) AllReadyH.nil)
       refine step_append_rows elemRow2 (by rfl) (.tmp 30) (.tmp 47) (by rfl) (by rfl) (by rfl) hO3.out.own (rowsAt_new _ [.slice A3 n d3] _) rfl (fun r hr=>by rw [List.mem_singleton.1 hr];rfl) (fun r hr u hu=>by rw [List.mem_singleton.1 hr] at hu;rw [List.mem_singleton.1 hu];rfl) (by simp only [List.length_map,List.length_singleton];exact hk6.out) (by decide) hsz6.out ?_
       intro v' w7 hown7 hg7 hob7
       have hb7':=Lib.hid (grown_below (B:=wo.heap.size) hg7 (fun g e=>(OwnL.lt hO3.out.own g e).1) hsz6.out)
       refine hK.out _ _ (hHeld.growOne hO3.out.own hg7 hwo2.out hbl2.out) (fun hHeld=>?_)
       clear hK K
       (try simp only [apS,apN,siA,scZ,scS])
       refine tkHx 19 6 ?_
       refine wpAnyH_done (by kernel_rfl) ?_ _
       (try simp only [apS,apN,siA,scZ,scS])
       have hpush : Hid (MatO w7 wo.heap.size v' (((M.drop 1).take (j + 1 - 1)).map (offC k)) (us ++ [.slice A3 n d3])):=by
        have:=hO3.out.push (Bs:=Y.heap.size) (r:=offC k R) (A:=A3) (c:=d3) (by rw [hofl];exact hI4.out) (fun g e=>(hvB.out g e).2) (by rw [hofl];exact hown7) hg7 hob7
        rw [hofl] at this
        show MatO _ _ _ _ _
        rw [htk.out]
        exact this
       have hb7 : Hid (Below wo.heap.size wo w7):=by
        show Below _ _ _
        exact (below_step (below_step hbd.out hb6.out) (below_alloc _ _)).trans hb7'.out
       clear hown7 hg7 hob7 hO3 hI4 hI6 hO1 hr1 hr2 htk hHeld hcut1' hcut2' hl1' hl2' hofl hoff hb6 hb7' hbd hws hwsO hvB hmade hsz6 hk4 hk5 hk6
       go_wp2_with fail
       go_roundw
       case rel=>exact ⟨j + 1,_,_,by omega,by omega,by go_num,rfl,hpush,hb7⟩
       case measure=>simp [intOf];omega
      ·have hje : j = n + 1:=Nat.le_antisymm hj (Nat.le_of_not_lt hjlt)
       subst hje
       have hall : (M.drop 1).take (n + 1 - 1) = M.drop 1:=List.take_of_length_le (by rw [List.length_drop,hl.out];exact Nat.le_refl _)
       rw [hall,show (M.drop 1).map (offC k) = minorL k M from rfl] at hO
       obtain ⟨A4,d4,rfl,hd4,hMR⟩:=hO.out.read
       rw [hl1] at hd4 ⊢
       have hcall:=Lib.hid (fun W (hb : Below wr.heap.size wr W)=>ih.out A4 d4 (minorL k M) us W (hMR.below hb) hl1 hd4 hl2.out)
       have c1 : wr.cell? ⟨b,o,none⟩ = some (Value.slice (some ⟨b2,o2,none⟩) r.length ci):=(hbw.out.cell (p:=⟨b,o,none⟩) hbl).trans c00.out
       have e1 : wr.cell? ⟨b2,o2 + k,none⟩ = some (.int .i64 x):=(hbq.out.cell (p:=⟨b2,o2 + k,none⟩) hb2).trans e00.out
       have hji : ¬ ((n : Int) + 1 < (n : Int) + 1):=by omega
       have hrr : (k : Int) < (r.length : Int):=by omega
       clear hMR hall hO
       go_wp2_with fail
       refine wp_region_held_drew (S:=Sx wr [(b,o,Value.slice (some ⟨b2,o2,none⟩) r.length ci),(b2,o2 + k,.int .i64 x)]) (by kernel_rfl) (Sx.mk (by simp only [cs_iff_cons];exact ⟨c1,e1,cs_nil _⟩) (Below.refl _ _)).drew (fun hHeld=>?_)
       clear c1 e1
       refine tkHx 0 49 ?_
       refine tkHx 1 50 ?_
       refine tkHx 2 51 ?_
       refine tkHx 3 52 ?_
       refine tkHx 4 53 ?_
       refine tkHx 5 54 ?_
       refine tkHx 6 55 ?_
       refine tkHx 7 56 ?_
       refine tkHx 8 57 ?_
       refine tkHx 9 58 ?_
       (refine ratHx 10 (fun K hK=>?_);go_simp)
       refine (hcall.out _ hHeld.bel).mono ?_
       rintro e wn ⟨rfl,hbn⟩
       go_simp
       (refine hK.out _ _ (hHeld.step hbn) (fun hHeld=>?_);clear hK K;(try simp only [apS,apN,siA,scZ,scS]))
       refine tkHx 11 60 ?_
       refine tkHx 12 61 ?_
       refine tkHx 13 3 ?_
       refine wpAnyH_done (by kernel_rfl) ?_ _
       (try simp only [apS,apN,siA,scZ,scS])
       have hb9:=Lib.hid (hbw.out.trans (hHeld.bel.mono hbw.out.size))
       clear hHeld hcall hbw hbq
       go_wp2_with fail
       go_roundw
       case rel=>exact ⟨k + 1,by omega,by go_num,by rw [hS2];have h:=hf.out;simp only [wrap_eq] at h ⊢;rw [h],by rw [hsg],hb9⟩
       case measure=>simp [intOf];omega
   ·obtain rfl : k = n + 1:=by omega
    go_wp2_with fail
    go_ret
    exact ⟨rfl,hb.out⟩
end Go.Proofs.Ythfokpchdlcidaa
namespace Go.Proofs.Ythfokpchdlcidaa
open Go Go.RowKit Go.Shelf
def shL (es : List Cal.Edge) : Nat → Nat → Int:=fun i j=>Cal.lap es (i + 1) (j + 1)
def shR (es : List Cal.Edge) : Nat → Int:=fun i=>Cal.rhs es (i + 1)
theorem shL_both {l : List Cal.Edge} {f t : Nat} {d w : Int} (hne : f ≠ t) :
  upd (upd (upd (upd (shL l) f f (shL l f f + w)) t t (shL l t t + w)) f t (shL l f t - w)) t f (shL l t f - w) = shL (l ++ [⟨f + 1,t + 1,d,w⟩]):=by
 funext i j
 unfold shL
 rw [Cal.lap_append]
 unfold upd Cal.dl
 by_cases h1 : i = f <;> by_cases h2 : i = t <;> by_cases h3 : j = f <;> by_cases h4 : j = t <;> simp_all <;> omega
theorem shL_f {l : List Cal.Edge} {f : Nat} {d w : Int} : upd (shL l) f f (shL l f f + w) = shL (l ++ [⟨f + 1,0,d,w⟩]):=by
 funext i j
 unfold shL
 rw [Cal.lap_append]
 unfold upd Cal.dl
 by_cases h1 : i = f <;> by_cases h3 : j = f <;> simp_all <;> omega
theorem shL_t {l : List Cal.Edge} {t : Nat} {d w : Int} : upd (shL l) t t (shL l t t + w) = shL (l ++ [⟨0,t + 1,d,w⟩]):=by
 funext i j
 unfold shL
 rw [Cal.lap_append]
 unfold upd Cal.dl
 by_cases h1 : i = t <;> by_cases h3 : j = t <;> simp_all <;> omega
theorem shR_both {l : List Cal.Edge} {f t : Nat} {d w : Int} (hne : f ≠ t) : updR (updR (shR l) f (shR l f - w * d)) t (shR l t + w * d) = shR (l ++ [⟨f + 1,t + 1,d,w⟩]):=by
 funext p
 unfold shR
 rw [Cal.rhs_append]
 unfold updR Cal.dl
 by_cases h1 : p = f <;> by_cases h2 : p = t <;> simp_all <;> omega
theorem shR_f {l : List Cal.Edge} {f : Nat} {d w : Int} : updR (shR l) f (shR l f - w * d) = shR (l ++ [⟨f + 1,0,d,w⟩]):=by
 funext p
 unfold shR
 rw [Cal.rhs_append]
 unfold updR Cal.dl
 by_cases h1 : p = f <;> simp_all <;> omega
theorem shR_t {l : List Cal.Edge} {t : Nat} {d w : Int} : updR (shR l) t (shR l t + w * d) = shR (l ++ [⟨0,t + 1,d,w⟩]):=by
 funext p
 unfold shR
 rw [Cal.rhs_append]
 unfold updR Cal.dl
 by_cases h1 : p = t <;> simp_all <;> omega
theorem listOf_dropG (n : Nat) (f : Nat → Int) : (listOf (n + 1) f).drop 1 = listOf n (fun i=>f (i + 1)):=by
 unfold listOf
 rw [List.range_succ_eq_map,List.map_cons,List.drop_succ_cons,List.drop_zero,List.map_map]
 rfl
theorem minor_datum (n : Nat) (es : List Cal.Edge) : minorL 0 (matOf (n + 1) (Cal.lap es)) = matOf n (shL es):=by
 unfold minorL matOf
 rw [List.range_succ_eq_map,List.map_cons,List.drop_succ_cons,List.drop_zero,List.map_map,List.map_map]
 refine List.map_congr_left fun i _=>?_
 show offC 0 (listOf (n + 1) (Cal.lap es (i + 1))) = _
 unfold offC
 rw [List.eraseIdx_zero,← List.drop_one,listOf_dropG]
 rfl
theorem rhs_datum (n : Nat) (es : List Cal.Edge) : (listOf (n + 1) (Cal.rhs es)).drop 1 = listOf n (shR es):=listOf_dropG n _
end Go.Proofs.Ythfokpchdlcidaa
namespace Go.Proofs.Ythfokpchdlcidaa
open Go Go.RowKit
section
variable {P : Program} {ops : Array Oper} {Q : Exit → Act → World → Prop} {md : Region.Mode} {S A B : World → Prop} {y z : Nat}
def heldP (S A B : World → Prop) (y z : Nat) (listed : Array Bool) (w : World) : Prop:=S w ∧ (listed.getD y true = false → A w) ∧ (listed.getD z true = false → B w)
theorem heldP_set {i : Nat} {listed : Array Bool} {w : World} (hy : i ≠ y) (hz : i ≠ z) : heldP S A B y z (listed.setIfInBounds i true) w ↔ heldP S A B y z listed w:=by
 unfold heldP
 rw [getD_set_ne true hy,getD_set_ne true hz]
def wpAnyHP (P : Program) (md : Region.Mode) (ops : Array Oper) (Q : Exit → Act → World → Prop) (S A B : World → Prop) (y z : Nat) : Nat → Array Bool → Act → World → Prop
 | 0,listed,a,w=>Region.ready md ops listed = [] ∧ Q .normal a w
 | fuel + 1,listed,a,w =>
  (Region.ready md ops listed = [] → Q .normal a w) ∧
  ∀ i ∈ Region.ready md ops listed,wpOp P ops Q i (fun a' w'=>heldP S A B y z (listed.setIfInBounds i true) w' ∧ wpAnyHP P md ops Q S A B y z fuel (listed.setIfInBounds i true) a' w') a w
theorem wpAny_of_heldP : ∀ (fuel : Nat) (listed : Array Bool) (a : Act) (w : World),wpAnyHP P md ops Q S A B y z fuel listed a w → wpAny P md ops Q fuel listed a w
 | 0,_,_,_,h=>h
 | fuel + 1,_,_,_,h=>⟨h.1,fun i hi=>wpOp_mono (fun a' w' h'=>wpAny_of_heldP fuel _ a' w' h'.2) (h.2 i hi)⟩
theorem wpAnyHP_first {i : Nat} {oi : Oper} {v : Value} {C : List Nat} (hi : ops[i]? = some oi) (hsel : ∀ (j : Nat) (o : Oper) cs b,ops[j]? = some o → o.op ≠ .select cs b)
  (hQ : ∀ c a w,Q (.panic c) (a.put oi.dst v) w → Q (.panic c) a w) (hC : chained ops md i C = true) (hiy : i ≠ y) (hiz : i ≠ z) :
  ∀ (fuel : Nat) (listed : Array Bool) (a : Act) (w : World),(∀ k ∈ C,listed.getD k true = false) →
   (∀ j oj,ops[j]? = some oj → j ≠ i → listed.getD j true = false → (∀ e ∈ oj.after,Region.binds md e = true → e.on ≠ i) → oi.apart ops oj = true) →
   i ∈ Region.ready md ops listed → YieldsIf P ops (fun w=>S w ∧ (y ∈ C → A w) ∧ (z ∈ C → B w)) oi v a → heldP S A B y z listed w →
   wpAnyHP P md ops Q S A B y z fuel (listed.setIfInBounds i true) (a.put oi.dst v) w → wpAnyHP P md ops Q S A B y z (fuel + 1) listed a w:=by
 intro fuel
 induction fuel with
 | zero =>
  intro listed a w hU _ hr hy hS H
  refine ⟨fun h=>(by rw [h] at hr;cases hr),fun j hj=>?_⟩
  by_cases hji : j = i
  ·subst hji;exact hy.wpOp hi ⟨hS.1,fun h=>hS.2.1 (hU y h),fun h=>hS.2.2 (hU z h)⟩ ⟨(heldP_set hiy hiz).2 hS,H⟩
  ·have:=ready_mono hj hji
   rw [H.1] at this
   cases this
 | succ fuel ih =>
  intro listed a w hU hfree hr hy hS H
  refine ⟨fun h=>(by rw [h] at hr;cases hr),fun j hj=>?_⟩
  by_cases hji : j = i
  ·subst hji;exact hy.wpOp hi ⟨hS.1,fun h=>hS.2.1 (hU y h),fun h=>hS.2.2 (hU z h)⟩ ⟨(heldP_set hiy hiz).2 hS,H⟩
  ·have h1:=H.2 j (ready_mono hj hji)
   have hjC:=not_ready_of_chained hC hU hj hji
   obtain ⟨hjun,oj,hoj,hall⟩:=mem_ready.1 hj
   have hnot : ∀ e ∈ oj.after,Region.binds md e = true → e.on ≠ i:=fun e he hb heq=>by
    have h1:=hall e he hb
    have h0:=(mem_ready.1 hr).1
    rw [heq] at h1
    rcases Nat.lt_or_ge i listed.size with h' | h'
    ·simp [h'] at h0 h1;rw [h0] at h1;cases h1
    ·simp [Array.getElem?_eq_none h'] at h1
   have h2:=wpOp_putIf hoj (hfree j oj hoj hji hjun hnot) (fun cs b=>hsel i oi cs b hi) (fun cs b=>hsel j oj cs b hoj) hQ hy h1
   have hfree' : ∀ k ok,ops[k]? = some ok → k ≠ i → (listed.setIfInBounds j true).getD k true = false →
     (∀ e ∈ ok.after,Region.binds md e = true → e.on ≠ i) → oi.apart ops ok = true:=fun k ok hk hki hun hno=>by
    refine hfree k ok hk hki ?_ hno
    by_cases hjk : j = k
    ·subst hjk;exact hjun
    ·rw [getD_set_ne true hjk] at hun;exact hun
   have hU' : ∀ k ∈ C,(listed.setIfInBounds j true).getD k true = false:=fun k hk=>by
    have hjk : j ≠ k:=fun e=>hjC (e ▸ hk)
    rw [getD_set_ne true hjk];exact hU k hk
   have hback : ∀ w',heldP S A B y z ((listed.setIfInBounds i true).setIfInBounds j true) w' → heldP S A B y z (listed.setIfInBounds j true) w':=fun w' h=>by
    rw [Array.setIfInBounds_comm _ _ (Ne.symm hji)] at h
    exact (heldP_set hiy hiz).1 h
   refine wpOp_mono (fun a' w' h3=>⟨hback w' h3.2.1,ih (listed.setIfInBounds j true) a' w' hU' hfree' (ready_mono hr (Ne.symm hji)) h3.1 (hback w' h3.2.1) ?_⟩) h2
   rw [Array.setIfInBounds_comm _ _ hji]
   exact h3.2.2
theorem wp_region_heldP {id : Nat} {a : Act} {w : World} (y z : Nat) (hm : P.follows .mixedOrders = true) (hS : S w.drew) (hA : A w.drew) (hB : B w.drew)
  (h : heldP S A B y z (Array.replicate ops.size false) w.drew → wpAnyHP P .any ops Q S A B y z ops.size (Array.replicate ops.size false) a w.drew) : (Code.region id ops true).wp P Q a w :=
 wp_region_any hm (wpAny_of_heldP _ _ _ _ (h ⟨hS,fun _=>hA,fun _=>hB⟩))
theorem wpAnyHP_done {listed : Array Bool} {a : Act} {w : World} (hr : Region.ready md ops listed = []) (h : Q .normal a w) : ∀ fuel,wpAnyHP P md ops Q S A B y z fuel listed a w
 | 0=>⟨hr,h⟩
 | _ + 1=>⟨fun _=>h,by rw [hr];simp⟩
theorem tkPx (i d : Nat) {oi : Oper} {v : Value} {fuel : Nat} {listed l' : Array Bool} {a a' : Act} {w : World}
  (h : heldP S A B y z l' w → wpAnyHP P md ops Q S A B y z fuel l' a' w) (hS : heldP S A B y z listed w) (hi : ops[i]? = some oi:=by exact rfl)
  (hy : ∀ w,S w → ((waiters ops md i).contains y = true → A w) → ((waiters ops md i).contains z = true → B w) → (execOp a.eval oi).run P w = .ok (.value v) w:=by (intro w' hSw hAw hBw;replace hSw:=hSw.cs;(try simp only [cs_iff_cons] at hSw);(first | replace hAw:=hAw (by decide +kernel) | clear hAw);(first | replace hBw:=hBw (by decide +kernel) | clear hBw);go_simp;(try with_reducible rfl)))
  (ha : a.put (some d) v = a':=by ((try simp only [Act.put,List.setIfInBounds_toArray,List.set_cons_zero,List.set_cons_succ]);exact rfl))
  (hl : listed.setIfInBounds i true = l':=by ((try simp only [List.setIfInBounds_toArray,List.set_cons_zero,List.set_cons_succ]);exact rfl))
  (hdd : oi.dst = some d:=by kernel_rfl) (hs : Region.noSelect ops = true:=by kernel_rfl) (hf : Region.free md ops listed i = true:=by decide +kernel) (hr : (Region.ready md ops listed).contains i = true:=by decide +kernel)
  (hC : chained ops md i (waiters ops md i) = true:=by kernel_rfl) (hiy : (i == y) = false:=by kernel_rfl) (hiz : (i == z) = false:=by kernel_rfl) (hU : unlistedB listed (waiters ops md i) = true:=by kernel_rfl)
  (hQ : ∀ c a w,Q (.panic c) (a.put oi.dst v) w → Q (.panic c) a w:=by exact fun _ _ _ h=>h) (hw : Region.wanted oi (yielded ops a.tmps) = true:=by kernel_rfl) : wpAnyHP P md ops Q S A B y z (fuel + 1) listed a w :=
 wpAnyHP_first hi (Region.noSelect_spec hs) hQ hC (by simpa using hiy) (by simpa using hiz) fuel listed a w (unlisted_spec hU) (Region.free_spec hi hf) (by simpa using hr)
  (Or.inl ⟨hw,fun w h=>hy w h.1 (fun h'=>h.2.1 (by simpa using h')) (fun h'=>h.2.2 (by simpa using h'))⟩) hS (by rw [hdd,ha,hl];exact h (hl ▸ (heldP_set (by simpa using hiy) (by simpa using hiz)).2 hS))
def AllReadyP (P : Program) (md : Region.Mode) (ops : Array Oper) (Q : Exit → Act → World → Prop) (S A B : World → Prop) (y z : Nat) (fuel : Nat) (listed : Array Bool) (a : Act) (w : World) (rs : List Nat) : Prop :=
 ∀ i ∈ rs,wpOp P ops Q i (fun a' w'=>heldP S A B y z (listed.setIfInBounds i true) w' ∧ wpAnyHP P md ops Q S A B y z fuel (listed.setIfInBounds i true) a' w') a w
theorem AllReadyP.nil {fuel : Nat} {listed : Array Bool} {a : Act} {w : World} : AllReadyP P md ops Q S A B y z fuel listed a w []:=fun _ h=>by cases h
theorem AllReadyP.cons {fuel : Nat} {listed : Array Bool} {a : Act} {w : World} {i : Nat} {o : Oper} {rs : List Nat} (ho : ops[i]? = some o)
  (h : ∀ K' : Act → World → Prop,Shut (∀ a w,heldP S A B y z (listed.setIfInBounds i true) w → (heldP S A B y z (listed.setIfInBounds i true) w → wpAnyHP P md ops Q S A B y z fuel (listed.setIfInBounds i true) a w) → K' a w) → if Region.wanted o (yielded ops a.tmps) = true then Oper.wp P o a w K' Q else K' (a.put o.dst undef) w)
  (hs : AllReadyP P md ops Q S A B y z fuel listed a w rs) : AllReadyP P md ops Q S A B y z fuel listed a w (i :: rs):=fun j hj=>by
 rcases List.mem_cons.1 hj with rfl | hj
 ·refine wpOp_step ho (fun K' hK=>?_)
  have:=h K' (fun a w hS hW=>hK a w ⟨hS,hW hS⟩)
  split
  ·rename_i hw;rw [if_pos hw] at this;exact this
  ·rename_i hw;rw [if_neg hw] at this;exact this
 ·exact hs j hj
theorem wpAnyHP_ready {rs : List Nat} {fuel : Nat} {listed : Array Bool} {a : Act} {w : World} (hr : Region.ready md ops listed = rs) (hne : rs ≠ [])
  (h : AllReadyP P md ops Q S A B y z fuel listed a w rs) : wpAnyHP P md ops Q S A B y z (fuel + 1) listed a w :=
 ⟨fun h0=>absurd (hr ▸ h0) hne,hr ▸ h⟩
end
end Go.Proofs.Ythfokpchdlcidaa
