/- What the statements rest on: definitions and walks, part 09. -/
import Derived.Test.YthfokpchdlcidaaJ08
import Derived.Lib.ConvBytes
set_option maxRecDepth 100000
set_option maxHeartbeats 16000000
set_option linter.unusedSimpArgs false
set_option linter.unusedVariables false
namespace Go.Proofs.Ythfokpchdlcidaa
open Go Go.RowKit Go.Shelf
attribute [local go_sem] Oper.semAt_some
theorem dblP_length (ps : List Pt) : (Cal.dblP ps).length = ps.length:=by unfold Cal.dblP;rw [List.length_map]
theorem doubled_any2 (V : Option Addr) (d : Nat) (ps : List Pt) (w : World) (hP : PtsV w V ps) :
  Calls Try.prog 109 #[.slice V ps.length d] w fun e w'=>e = .returned (.slice (some ⟨w.heap.size,0,none⟩) (Cal.dblP ps).length (Cal.dblP ps).length) ∧ Pts w' (some ⟨w.heap.size,0,none⟩) (Cal.dblP ps) ∧ Below w.heap.size w w' :=
 (doubled_any V d ps w hP).mono fun _ _ ⟨h1,h2,h3⟩=>⟨by rw [h1,dblP_length],h2,h3⟩
theorem whereP_cases (ps : List Pt) (q : Pt) : Cal.whereP ps q = 1 ∨ Cal.whereP ps q = 0 ∨ Cal.whereP ps q = -1:=by
 unfold Cal.whereP
 have : ∀ (l : List Sd) (b : Bool),Cal.whereFrom q b l = 1 ∨ Cal.whereFrom q b l = 0 ∨ Cal.whereFrom q b l = -1:=by
  intro l
  induction l with
  | nil=>intro b;cases b <;> simp [Cal.whereFrom]
  | cons s r ih =>
   intro b
   unfold Cal.whereFrom
   split
   ·exact .inr (.inl rfl)
   ·exact ih _
 exact this _ _
theorem pcs_sm {ps os : List Pt} (hp : ∀ p ∈ ps,SmV p) (ho : ∀ p ∈ os,SmV p) (hnd : ∀ i,i < ps.length → (Cal.sd ps i).a ≠ (Cal.sd ps i).b) {x : Cal.Pc} (hx : x ∈ Cal.pcsP ps os) : SmP x.mid ∧ SmS x.of:=by
 unfold Cal.pcsP at hx
 obtain ⟨s,hs,hx⟩:=List.mem_flatMap.1 hx
 unfold Cal.sds at hs
 obtain ⟨i,hi,rfl⟩:=List.mem_map.1 hs
 have hi:=List.mem_range.1 hi
 have hmod : (i + 1) % ps.length < ps.length:=Nat.mod_lt _ (by omega)
 have hsa : SmV (Cal.sd ps i).a:=by rw [sd_of (List.getElem?_eq_getElem hi) (List.getElem?_eq_getElem hmod)];exact hp _ (List.getElem_mem _)
 have hsb : SmV (Cal.sd ps i).b:=by rw [sd_of (List.getElem?_eq_getElem hi) (List.getElem?_eq_getElem hmod)];exact hp _ (List.getElem_mem _)
 have hn:=hnd i hi
 generalize Cal.sd ps i = s at *
 have hm : ∀ p ∈ Cal.atP s os,SmV p:=fun p hp=>by
  have:=(fold_insP hn (s.a :: s.b :: os.filter (Cal.hasP s)) [] (fun p hp=>by
   rcases List.mem_cons.1 hp with e | hp
   ·rw [e];exact Cal.crs_a s
   ·rcases List.mem_cons.1 hp with e | hp
    ·rw [e];exact Cal.crs_b s
    ·exact Cal.hasP_crs (List.mem_filter.1 hp).2) (fun p hp=>by cases hp) List.Pairwise.nil).2 p
  rcases this.1 hp with h | h
  ·cases h
  ·rcases List.mem_cons.1 h with e | h
   ·rw [e];exact hsa
   ·rcases List.mem_cons.1 h with e | h
    ·rw [e];exact hsb
    ·exact ho p (List.mem_filter.1 h).1
 have : ∀ l : List Pt,(∀ p ∈ l,SmV p) → ∀ x ∈ Cal.pcsOf s l,SmP x.mid ∧ x.of = s:=by
  intro l
  induction l with
  | nil=>intro _ x hx;cases hx
  | cons p r ih =>
   cases r with
   | nil=>intro _ x hx;cases hx
   | cons q r =>
    intro hl x hx
    rw [Cal.pcsOf] at hx
    rcases List.mem_cons.1 hx with e | hx
    ·subst e
     obtain ⟨a0,a1,a2,a3⟩:=hl p List.mem_cons_self
     obtain ⟨b0,b1,b2,b3⟩:=hl q (List.mem_cons_of_mem _ List.mem_cons_self)
     exact ⟨by constructor <;> (dsimp only;omega),rfl⟩
    ·exact ih (fun p h=>hl p (List.mem_cons_of_mem _ h)) x hx
 obtain ⟨h1,h2⟩:=this _ hm x hx
 exact ⟨h1,by rw [h2];exact ⟨hsa.sm,hsb.sm⟩⟩
def enT (x : Cal.Pc) (t : Sd) : Bool:=Cal.hasP t x.mid && decide (0 < (x.of.b.x - x.of.a.x) * (t.b.x - t.a.x) + (x.of.b.y - x.of.a.y) * (t.b.y - t.a.y))
def enX (ds : List Pt) (x : Cal.Pc) : Bool:=if Cal.whereP ds x.mid = 1 then true else if Cal.whereP ds x.mid = 0 then (Cal.sds ds).any (enT x) else false
theorem sds_any_true {ds : List Pt} {f : Sd → Bool} {j : Nat} (hj : j < ds.length) (h : f (Cal.sd ds j) = true) : (Cal.sds ds).any f = true:=by
 rw [List.any_eq_true]
 unfold Cal.sds
 exact ⟨_,List.mem_map.2 ⟨j,List.mem_range.2 hj,rfl⟩,h⟩
theorem sds_any_false {ds : List Pt} {f : Sd → Bool} (h : ∀ j,j < ds.length → f (Cal.sd ds j) = false) : (Cal.sds ds).any f = false:=by
 rw [List.any_eq_false]
 unfold Cal.sds
 rintro x hx
 obtain ⟨j,hj,rfl⟩:=List.mem_map.1 hx
 rw [h j (List.mem_range.1 hj)]
 decide
theorem pcs_any_true {l : List Cal.Pc} {f : Cal.Pc → Bool} {k : Nat} {x : Cal.Pc} (hk : l[k]? = some x) (h : f x = true) : l.any f = true:=by
 rw [List.any_eq_true]
 exact ⟨x,List.mem_of_getElem? hk,h⟩
theorem pcs_any_false {l : List Cal.Pc} {f : Cal.Pc → Bool} (h : ∀ k x,k < l.length → l[k]? = some x → f x = false) : l.any f = false:=by
 rw [List.any_eq_false]
 rintro x hx
 obtain ⟨k,hk,rfl⟩:=List.getElem_of_mem hx
 rw [h k _ hk (List.getElem?_eq_getElem hk)]
 decide
structure RdP (B n₀ Bp Bo : Nat) (W Y : World) : Prop where
 keeps : KeepsFrom B W Y
 kp : KpP n₀ Bp Bo (B + 1 + 1) W Y
theorem RdP.trans {B n₀ Bp Bo : Nat} {X Y Z : World} (h : RdP B n₀ Bp Bo X Y) (k : RdP B n₀ Bp Bo Y Z) : RdP B n₀ Bp Bo X Z:=⟨h.keeps.trans k.keeps,h.kp.trans k.kp⟩
theorem RdP.below {B n₀ Bp Bo : Nat} {X Y : World} (h : Below X.heap.size X Y) (hn : n₀ ≤ X.heap.size) (hp : Bp < X.heap.size) (ho : Bo < X.heap.size) : RdP B n₀ Bp Bo X Y:=⟨(keepsF_below h).from _,KpP.below h hn hp ho⟩
theorem KpP.set {n₀ Bp Bo B : Nat} {X : World} {b o : Nat} (v : Value) (hn : n₀ ≤ b) (hb : b < B) (hp : Bp ≠ b) (ho : Bo ≠ b) : KpP n₀ Bp Bo B X (X.setCell ⟨b,o,none⟩ v) :=
 ⟨(Below.refl _ _).setCell (p:=⟨b,o,none⟩) hn v,⟨by simp,fun c h1 _=>Below.heap_setCell X ⟨b,o,none⟩ v c (show c ≠ b by omega)⟩,Below.heap_setCell X ⟨b,o,none⟩ v Bp hp,Below.heap_setCell X ⟨b,o,none⟩ v Bo ho⟩
theorem RdP.set {B n₀ Bp Bo : Nat} {X : World} {b o : Nat} (v : Value) (hn : n₀ ≤ b) (hb : b < B) (hp : Bp ≠ b) (ho : Bo ≠ b) : RdP B n₀ Bp Bo X (X.setCell ⟨b,o,none⟩ v):=⟨(KeepsOthers.setCell _ _ _).from _,KpP.set v hn (by omega) hp ho⟩
theorem rdP_own {β : Type} {B n₀ Bp Bo B' : Nat} {W : World} (hB : W.heap.size ≤ B') (hn : n₀ ≤ W.heap.size) (hp : Bp < W.heap.size) (ho : Bo < W.heap.size) : OwnFrom B' (fun (_ : β) Y=>RdP B n₀ Bp Bo W Y):=fun k X Y row h hg hr=>by
 have hz:=h.kp.2.1.size
 have hbl : ∀ b,b < W.heap.size → Y.heap[b]? = X.heap[b]?:=fun b hb=>World.grownBy.block hg b (by omega) (fun e=>by have:=(hr b e.symm).1;omega)
 exact ⟨ownFrom_keepsFrom (β:=β) hB k X Y row h.keeps hg hr,ownFrom_below (β:=β) hn (Nat.le_trans hn hB) k X Y row h.kp.1 hg hr,
  ⟨Nat.le_trans hz hg.size,fun b h1 h2=>(hbl b h2).trans (h.kp.2.1.same b h1 h2)⟩,(hbl _ hp).trans h.kp.2.2.1,(hbl _ ho).trans h.kp.2.2.2⟩
structure EnI (w : World) (T M N : Nat) (ds : List Pt) (W : World) : Prop where
 r : ∃ v,BoxAt W w.heap.size [v]
 t : BoxAt W T [.slice (some ⟨M,0,none⟩) ds.length ds.length]
 p : Pts W (some ⟨M,0,none⟩) ds
 bel : Below w.heap.size w W
 lt : w.heap.size < M ∧ M ≤ T ∧ T < N
 size : N ≤ W.heap.size
theorem BoxAt.belowN {w w' : World} {n B : Nat} {cs : List Value} (h : BoxAt w B cs) (hb : Below n w w') (hn : B < n) : BoxAt w' B cs:=h.ofBlock (hb.block _ hn) hb.size
theorem EnI.belowN {w : World} {T M N : Nat} {ds : List Pt} {X Y : World} (h : EnI w T M N ds X) (hb : Below N X Y) : EnI w T M N ds Y:=by
 obtain ⟨⟨v,h1⟩,h2,h3,h4,h5,h6⟩:=h
 exact ⟨⟨v,h1.belowN hb (by omega)⟩,h2.belowN hb (by omega),⟨rowsAt_belowN h3.rows (fun ad e _=>by cases e;show M < N;omega) hb,h3.size,h3.sm,fun ad e hl=>Nat.lt_of_lt_of_le (h3.own ad e hl) hb.size⟩,h4.trans (hb.mono (by omega)),h5,Nat.le_trans h6 hb.size⟩
theorem EnI.below {w : World} {T M N : Nat} {ds : List Pt} {X Y : World} (h : EnI w T M N ds X) (hb : Below X.heap.size X Y) : EnI w T M N ds Y:=h.belowN (hb.mono h.size)
theorem EnI.kept {w : World} {T M N B : Nat} {ds : List Pt} {X Y : World} {row : Option Nat} (h : EnI w T M N ds X) (hg : X.grownBy Y row) (hB : N ≤ B) (hr : ∀ r,row = some r → B ≤ r ∧ ∃ o : Obj,X.heap[r]? = some o ∧ o.isCells = false) : EnI w T M N ds Y :=
 h.belowN ((Below.refl _ _).grown hg h.size (fun r e=>Nat.le_trans hB (hr r e).1))
theorem EnI.abM {w : World} {T M N : Nat} {ds : List Pt} {X Y : World} (h : EnI w T M N ds X) (ha : AbM (N + 1 + 1) X Y) : EnI w T M N ds Y:=h.belowN (ha.mono (by have:=h.size;omega))
def EnJ (w : World) (T M N : Nat) (ds : List Pt) (L : List Cal.Pc) (k : Nat) (W : World) : Prop:=(∀ i x,i < k → L[i]? = some x → enX ds x = false) ∧ EnI w T M N ds W
def EnZ (w : World) (W : World) : Prop:=BoxAt W w.heap.size [.bool true] ∧ Below w.heap.size w W
def EnXt (w : World) (b : Bool) (c : Code) (_ : Nat) (W : World) : Prop:=c = .ret ∧ b = true ∧ EnZ w W
def EnJ2 (w : World) (T M N Bp Bo Bx S : Nat) (W : World) (ds : List Pt) (x : Cal.Pc) (j : Nat) (Y : World) : Prop:=(∀ i,i < j → enT x (Cal.sd ds i) = false) ∧ EnI w T M N ds Y ∧ BoxAt Y Bx [.int .i64 x.mid.x,.int .i64 x.mid.y,.int .i64 (x.of.b.x - x.of.a.x),.int .i64 (x.of.b.y - x.of.a.y)] ∧ RdP N w.heap.size Bp Bo W Y ∧ S ≤ Y.heap.size
def EnX2 (w : World) (N Bp Bo : Nat) (W : World) (ds : List Pt) (x : Cal.Pc) (c : Code) (j : Nat) (Y : World) : Prop:=c = .ret ∧ j < ds.length ∧ enT x (Cal.sd ds j) = true ∧ EnZ w Y ∧ RdP N w.heap.size Bp Bo W Y
theorem enZ_own {β : Type} {w : World} {B : Nat} (hB : w.heap.size ≤ B) : OwnFrom B (fun (_ : β) W=>EnZ w W):=fun k X Y row h hg hr =>
 ⟨h.1.keptF hg (fun r e=>(hr r e).2),ownFrom_below (β:=β) (Nat.le_refl _) hB k X Y row h.2 hg hr⟩
theorem EnZ.abM {w : World} {B : Nat} {X Y : World} (h : EnZ w X) (hB : w.heap.size < B) (ha : AbM B X Y) : EnZ w Y :=
 ⟨h.1.belowN ha (by have:=h.1.lt;omega),h.2.trans (ha.mono (by have:=h.1.lt;omega))⟩
theorem enJ_own (w : World) (T M N : Nat) (ds : List Pt) (L : List Cal.Pc) {B : Nat} (hB : N ≤ B) : OwnFrom B (EnJ w T M N ds L):=fun _ _ _ _ h hg hr=>⟨h.1,h.2.kept hg hB hr⟩
theorem enXt_own (w : World) (b : Bool) {B : Nat} (hB : w.heap.size ≤ B) (c : Code) : OwnFrom B (EnXt w b c):=fun k X Y row h hg hr=>⟨h.1,h.2.1,enZ_own (β:=Nat) hB k X Y row h.2.2 hg hr⟩
theorem enJ2_own (w : World) (T M N Bp Bo Bx S : Nat) (W : World) (ds : List Pt) (x : Cal.Pc) {B : Nat} (hB : W.heap.size ≤ B) (hN : N ≤ B) (hn : w.heap.size ≤ W.heap.size) (hp : Bp < W.heap.size) (ho : Bo < W.heap.size) : OwnFrom B (EnJ2 w T M N Bp Bo Bx S W ds x):=fun k X Y row h hg hr =>
 ⟨h.1,h.2.1.kept hg hN hr,h.2.2.1.keptF hg (fun r e=>(hr r e).2),rdP_own (β:=Nat) hB hn hp ho k X Y row h.2.2.2.1 hg hr,Nat.le_trans h.2.2.2.2 hg.size⟩
theorem enX2_own (w : World) (N Bp Bo : Nat) (W : World) (ds : List Pt) (x : Cal.Pc) {B : Nat} (hB : W.heap.size ≤ B) (hn : w.heap.size ≤ W.heap.size) (hp : Bp < W.heap.size) (ho : Bo < W.heap.size) (c : Code) : OwnFrom B (EnX2 w N Bp Bo W ds x c):=fun k X Y row h hg hr =>
 ⟨h.1,h.2.1,h.2.2.1,enZ_own (β:=Nat) (by omega) k X Y row h.2.2.2.1 hg hr,rdP_own (β:=Nat) hB hn hp ho k X Y row h.2.2.2.2 hg hr⟩
theorem EnI.true {w : World} {T M N : Nat} {ds : List Pt} {X : World} (h : EnI w T M N ds X) : EnZ w (X.setCell ⟨w.heap.size,0,none⟩ (.bool true)):=by
 obtain ⟨⟨v,h1⟩,_,_,h4,_,_⟩:=h
 exact ⟨h1.set 0 _ Nat.zero_lt_one,h4.setCell (p:=⟨w.heap.size,0,none⟩) (Nat.le_refl _) _⟩
theorem enters_any (Vp Vo : Option Addr) (dp do_ : Nat) (ps os : List Pt) (w : World) (hP : PtsV w Vp ps) (hO : PtsV w Vo os) (hos : os.length ≤ 10) (hnd : ∀ i,i < ps.length → (Cal.sd ps i).a ≠ (Cal.sd ps i).b) :
  Calls Try.prog 88 #[.slice Vp ps.length dp,.slice Vo os.length do_] w fun e w'=>e = .returned (.bool (Cal.entersP ps os)) ∧ Below w.heap.size w w':=by
 show Calls Try.prog 88 _ w fun e w'=>e = .returned (.bool ((Cal.pcsP ps os).any (enX (Cal.dblP os)))) ∧ Below w.heap.size w w'
 refine (callsIn_wide (n:=9)).1 ?_
 refine callsIn_of_wp_marks Try.func88 rfl trivial ?_ rfl
 simp only [Try.ntmps88,List.size_toArray,List.length_cons,List.length_nil,Nat.reduceAdd,Nat.reduceSub,Array.replicate_succ,Array.replicate_zero,List.push_toArray,List.append_toArray,List.nil_append,List.cons_append]
 have hsmx:=Lib.hid (fun (x : Cal.Pc) (h : x ∈ Cal.pcsP ps os)=>pcs_sm hP.sm hO.sm hnd h)
 have hA1 : Below w.heap.size w (w.alloc (.cells #[.bool false] 4)):=below_alloc _ _
 have hPz:=Lib.hid hP
 have hOz:=Lib.hid (hO.below hA1)
 have bR:=Lib.hid (BoxAt.new w #[.bool false] 4)
 gi_wp2_with (first
  |(refine ⟨trivial,?_⟩;gi_at_call 109;refine (callsIn_wide.2 (doubled_any2 _ _ _ _ hOz.out)).mono ?_;rintro e w2 ⟨rfl,hD2,hb2⟩)
  |(refine ⟨trivial,?_⟩;gi_at_call 110;refine (callsIn_wide.2 (pieces_any _ _ _ _ _ _ _)).mono ?_;rintro e w3 ⟨rfl,rfl⟩))
 have hs1 : (w.alloc (.cells #[.bool false] 4)).heap.size = w.heap.size + 1:=by simp
 rw [hs1] at hD2 hb2
 have hb2z:=hb2.size
 rw [hs1] at hb2z
 have bR2:=bR.out.belowN hb2 (by omega)
 have hw2 : Below w.heap.size w w2:=hA1.trans (hb2.mono (by omega))
 clear bR hOz hb2 hs1
 have bT:=((BoxAt.new w2 #[.slice (some ⟨w.heap.size + 1,0,none⟩) (Cal.dblP os).length (Cal.dblP os).length] 35).alloc (.cells #[.slice Vp ps.length dp] 35)).alloc (.cells #[.slice Vo os.length do_] 35)
 have bP:=(BoxAt.new (w2.alloc (.cells #[.slice (some ⟨w.heap.size + 1,0,none⟩) (Cal.dblP os).length (Cal.dblP os).length] 35)) #[.slice Vp ps.length dp] 35).alloc (.cells #[.slice Vo os.length do_] 35)
 have bO:=BoxAt.new ((w2.alloc (.cells #[.slice (some ⟨w.heap.size + 1,0,none⟩) (Cal.dblP os).length (Cal.dblP os).length] 35)).alloc (.cells #[.slice Vp ps.length dp] 35)) #[.slice Vo os.length do_] 35
 have hB0 : Below w2.heap.size w2 (((w2.alloc (.cells #[.slice (some ⟨w.heap.size + 1,0,none⟩) (Cal.dblP os).length (Cal.dblP os).length] 35)).alloc (.cells #[.slice Vp ps.length dp] 35)).alloc (.cells #[.slice Vo os.length do_] 35)):=below_step (below_step (below_alloc _ _) (below_alloc _ _)) (below_alloc _ _)
 have hs0 : ((((w2.alloc (.cells #[.slice (some ⟨w.heap.size + 1,0,none⟩) (Cal.dblP os).length (Cal.dblP os).length] 35)).alloc (.cells #[.slice Vp ps.length dp] 35)).alloc (.cells #[.slice Vo os.length do_] 35))).heap.size = w2.heap.size + 3:=by simp
 simp only [World.size_alloc] at bP bO
 obtain ⟨W0,hW0⟩ : ∃ W0,(((w2.alloc (.cells #[.slice (some ⟨w.heap.size + 1,0,none⟩) (Cal.dblP os).length (Cal.dblP os).length] 35)).alloc (.cells #[.slice Vp ps.length dp] 35)).alloc (.cells #[.slice Vo os.length do_] 35)) = W0:=⟨_,rfl⟩
 rw [hW0] at bT bP bO hB0 hs0 ⊢
 clear hW0
 replace hs0 : w2.heap.size + 3 ≤ W0.heap.size:=Nat.le_of_eq hs0.symm
 have hI0 : EnI w w2.heap.size (w.heap.size + 1) W0.heap.size (Cal.dblP os) W0:=⟨⟨_,bR2.below hB0⟩,bT,hD2.below hB0,hw2.trans (hB0.mono hw2.size),⟨by omega,by omega,by omega⟩,Nat.le_refl _⟩
 have hPW:=hPz.out.below (hw2.trans (hB0.mono hw2.size))
 have hOW:=hO.below (hw2.trans (hB0.mono hw2.size))
 obtain ⟨ds,hds⟩ : ∃ ds,Cal.dblP os = ds:=⟨_,rfl⟩
 rw [hds] at hI0 bT ⊢
 have hds:=Lib.hid hds
 refine wpIn_range_pieces (Bp:=w2.heap.size + 1) (Bo:=w2.heap.size + 1 + 1) (n₀:=w.heap.size) (Vp:=Vp) (Vo:=Vo) (dp:=dp) (do_:=do_) (ps:=ps) (os:=os) rfl rfl (bP.c 0 _ rfl) (bO.c 0 _ rfl) (by omega) (by omega) hPW hOW hP.own hO.own (by omega) hos hnd
  (EnJ w w2.heap.size (w.heap.size + 1) W0.heap.size ds (Cal.pcsP ps os)) (EnXt w ((Cal.pcsP ps os).any (enX ds))) (enJ_own w _ _ _ ds _ (Nat.le_refl _)) (enXt_own w _ (by omega))
  (fun k X Y h ha=>⟨h.1,h.2.abM ha⟩) (fun c k X Y h ha=>⟨h.1,h.2.1,h.2.2.abM (by omega) ha⟩) ⟨fun i x hi=>by omega,hI0⟩
  (fun T x By=>(T.setIfInBounds 14 (.agg #[.int .i64 x.mid.x,.int .i64 x.mid.y,.int .i64 (x.of.b.x - x.of.a.x),.int .i64 (x.of.b.y - x.of.a.y)])).setIfInBounds 6 (.pointer (some ⟨By,0,none⟩)))
  ?assign ?body ?done ?stop
 case assign =>
  rintro l k x W K hx ⟨hc,hI⟩ hK
  gi_wp2
  have hz:=hI.size
  exact hK W.heap.size _ hz ((KeepsOthers.alloc _ _).from _) (KpP.below (below_alloc _ _) hI.bel.size (by omega) (by omega)) ⟨hc,hI.below (below_alloc _ _)⟩ (BoxAt.new W #[.int .i64 x.mid.x,.int .i64 x.mid.y,.int .i64 (x.of.b.x - x.of.a.x),.int .i64 (x.of.b.y - x.of.a.y)] _)
 case body =>
  rintro l k x Bx W hl ⟨r,hr⟩ hx ⟨hc,hI⟩ hBx bX
  simp only [List.setIfInBounds_toArray,List.set_cons_zero,List.set_cons_succ]
  have hsx:=hsmx.out x (List.mem_of_getElem? hx)
  have hz:=hI.size
  have t0:=hI.t.c 0 _ rfl
  have c0:=bX.c 0 _ rfl
  have c1:=bX.c 1 _ rfl
  have hIz:=Lib.hid hI
  have bXz:=Lib.hid bX
  have hcz:=Lib.hid hc
  clear hI bX hc
  rcases whereP_cases ds x.mid with hw | hw | hw
  ·have hex : Hid (enX ds x = true):=by show _ = _;unfold enX;rw [if_pos hw]
   gi_wp2_with (refine ⟨trivial,?_⟩;gi_at_call 48;refine (callsIn_wide.2 (where_any _ _ _ _ _ hIz.out.p hsx.1)).mono ?_;rintro e wn ⟨rfl,hbn⟩;rw [hw];have hbz:=Lib.hid hbn;have hI2:=Lib.hid (hIz.out.below hbn);clear hbn;obtain ⟨rv,hrv⟩:=hI2.out.r;have r0:=hrv.c 0 _ rfl;have r1:=hrv.free 0 Nat.zero_lt_one;clear hrv)
   have hlt:=hIz.out.lt
   have hbl:=hIz.out.bel.size
   have hb9:=hbz.out.size
   exact ⟨((keepsF_below hbz.out).trans (KeepsOthers.setCell _ _ _)).from _,(KpP.below hbz.out (by omega) (by omega) (by omega)).trans (KpP.set _ (Nat.le_refl _) (by omega) (by omega) (by omega)),rfl,pcs_any_true hx hex.out,hI2.out.true⟩
  ·have hexq : Hid (enX ds x = (Cal.sds ds).any (enT x)):=by show _ = _;unfold enX;rw [if_neg (by omega),if_pos hw]
   gi_wp2_with (first
    |(refine ⟨trivial,?_⟩;gi_at_call 48;refine (callsIn_wide.2 (where_any _ _ _ _ _ hIz.out.p hsx.1)).mono ?_;rintro e wn ⟨rfl,hbn⟩;rw [hw];have hbz:=Lib.hid hbn;have hI2:=Lib.hid (hIz.out.below hbn);have bX2:=Lib.hid (bXz.out.below hbn);clear hbn;have t1:=hI2.out.t.c 0 _ rfl)
    |(refine ⟨trivial,?_⟩;gi_at_call 79;refine (callsIn_wide.2 (sides_any _ _ _ _)).mono ?_;rintro e w' ⟨rfl,rfl⟩))
   have bT:=BoxAt.new wn #[.slice (some ⟨w.heap.size + 1,0,none⟩) ds.length ds.length] 35
   have hbw : Below wn.heap.size wn (wn.alloc (.cells #[.slice (some ⟨w.heap.size + 1,0,none⟩) ds.length ds.length] 35)):=below_alloc _ _
   have hlt:=hIz.out.lt
   have hblz:=hIz.out.bel.size
   have hI6:=hI2.out.below hbw
   have hbz9:=hbz.out.size
   have hs1 : (wn.alloc (.cells #[.slice (some ⟨w.heap.size + 1,0,none⟩) ds.length ds.length] 35)).heap.size = wn.heap.size + 1:=by simp
   have hbW1 : Below W.heap.size W (wn.alloc (.cells #[.slice (some ⟨w.heap.size + 1,0,none⟩) ds.length ds.length] 35)):=hbz.out.trans (hbw.mono (by omega))
   have hr1 : (wn.alloc (.cells #[.slice (some ⟨w.heap.size + 1,0,none⟩) ds.length ds.length] 35)).heap[l]? = some (.loop r):=(hbW1.block l (Array.getElem?_eq_some_iff.1 hr).1).trans hr
   have bX6:=bXz.out.below hbW1
   obtain ⟨W1,hW1⟩ : ∃ W1,wn.alloc (.cells #[.slice (some ⟨w.heap.size + 1,0,none⟩) ds.length ds.length] 35) = W1:=⟨_,rfl⟩
   rw [hW1] at bT hI6 hs1 hr1 hbw hbW1 bX6 ⊢
   clear hW1
   refine wpIn_sides1NM hr1 (M:=w.heap.size + 1) (ofs:=0) (Bs:=wn.heap.size) (d:=ds.length) (ps:=ds) (by omega) rfl rfl (bT.c 0 _ rfl) (by omega) hI6.p (by omega)
    (EnJ2 w w2.heap.size (w.heap.size + 1) W0.heap.size (w2.heap.size + 1) (w2.heap.size + 1 + 1) Bx W1.heap.size W ds x) (EnX2 w W0.heap.size (w2.heap.size + 1) (w2.heap.size + 1 + 1) W ds x) (enJ2_own w _ _ _ _ _ _ _ W ds x (by omega) (by omega) (by omega) (by omega) (by omega)) (enX2_own w _ _ _ W ds x (by omega) (by omega) (by omega) (by omega))
    ⟨fun j hj=>by omega,hI6,bX6,RdP.below hbW1 (by omega) (by omega) (by omega),by omega⟩
    (fun T j t By=>((T.setIfInBounds 25 (.int .i64 (j : Int))).setIfInBounds 26 (.agg #[.int .i64 t.a.x,.int .i64 t.a.y,.int .i64 t.b.x,.int .i64 t.b.y])).setIfInBounds 8 (.pointer (some ⟨By,0,none⟩)))
    ?assign2 ?body2 ?done2 ?stop2
   case assign2 =>
    rintro l2 j Y K hj ⟨hc2,hI2,bX2,hR2,hz2⟩ hK
    gi_wp2
    exact hK Y.heap.size _ (by omega) ((KeepsOthers.alloc _ _).from _) (KpM.below (below_alloc _ _) (by omega) (by omega)) ⟨hc2,hI2.below (below_alloc _ _),bX2.alloc _,hR2.trans (RdP.below (below_alloc _ _) (by omega) (by omega) (by omega)),by simp;omega⟩ (BoxAt.new Y #[.int .i64 (Cal.sd ds j).a.x,.int .i64 (Cal.sd ds j).a.y,.int .i64 (Cal.sd ds j).b.x,.int .i64 (Cal.sd ds j).b.y] _)
   case body2 =>
    rintro l2 j By Y hl2 ⟨r2,hr2⟩ hj ⟨hc2,hI2,bX2,hR2,hz2⟩ hBy bY
    simp only [List.setIfInBounds_toArray,List.set_cons_zero,List.set_cons_succ]
    have hse:=hI2.p.sd j hj
    have e0:=bX2.c 0 _ rfl
    have e1:=bX2.c 1 _ rfl
    have e2:=bX2.c 2 _ rfl
    have e3:=bX2.c 3 _ rfl
    have g0:=bY.c 0 _ rfl
    have g1:=bY.c 1 _ rfl
    have g2:=bY.c 2 _ rfl
    have g3:=bY.c 3 _ rfl
    obtain ⟨t,htt⟩ : ∃ t,Cal.sd ds j = t:=⟨_,rfl⟩
    rw [htt] at g0 g1 g2 g3 hse ⊢
    have htt:=Lib.hid htt
    have hall:=Lib.hid (And.intro hc2 (And.intro hI2 (And.intro bX2 hR2)))
    clear hc2 hI2 bX2 hR2 bY
    obtain ⟨cb,hcb⟩ : ∃ cb,Cal.hasP t x.mid = cb:=⟨_,rfl⟩
    have hcb:=Lib.hid hcb
    cases cb
    ·have hbf : Hid (enT x t = false):=by show _ = _;unfold enT;rw [hcb.out];rfl
     gi_wp2;refine wpIn_region_held_drew (S:=Sx Y [(By,0,.int .i64 t.a.x),(By,1,.int .i64 t.a.y),(By,2,.int .i64 t.b.x),(By,3,.int .i64 t.b.y),(Bx,0,.int .i64 x.mid.x),(Bx,1,.int .i64 x.mid.y),(Bx,2,.int .i64 (x.of.b.x - x.of.a.x)),(Bx,3,.int .i64 (x.of.b.y - x.of.a.y))]) (by kernel_rfl) (Sx.mk (by simp only [cs_iff_cons];exact ⟨g0,g1,g2,g3,e0,e1,e2,e3,cs_nil _⟩) (Below.refl _ _)).drew (fun hHeld=>?_)
     refine tkIx 0 27 ?_
     refine tkIx 1 28 ?_
     refine tkIx 2 29 ?_
     (refine ratI 3 (fun _=>trivial) (by decide +kernel) rfl (fun K hK=>?_);rw [if_pos (by kernel_rfl)];go_simp)
     refine ⟨trivial,?_⟩
     refine (callsIn_wide.2 (has_any t x.mid _ hse hsx.1)).mono ?_
     rintro e wn ⟨rfl,hbn⟩
     rw [hcb.out]
     go_simp
     (refine hK.out _ _ (hHeld.step hbn) (fun hHeld=>?_);clear hK K;(try simp only [apS,apN,siA,scZ,scS]))
     refine tkIx 4 31 ?_
     refine tkNx 5 32 ?_
     refine tkNx 6 33 ?_
     refine tkNx 7 34 ?_
     refine tkNx 8 35 ?_
     refine tkNx 9 36 ?_
     refine tkNx 10 37 ?_
     refine tkNx 11 38 ?_
     refine tkNx 12 39 ?_
     refine tkNx 13 40 ?_
     refine tkIx 14 41 ?_
     refine wpAnyInH_done (by decide +kernel) ?_ _
     gi_wp2
     obtain ⟨hc2,hI2,bX2,hR2⟩:=hall.out
     have hz5:=hHeld.bel.size
     refine ⟨(keepsF_below hHeld.bel).from _,KpM.below hHeld.bel (by omega) (by omega),fun i hi=>?_,hI2.below hHeld.bel,bX2.below hHeld.bel,hR2.trans (RdP.below hHeld.bel (by omega) (by omega) (by omega)),by omega⟩
     by_cases hij : i = j
     ·subst hij;rw [htt.out];exact hbf.out
     ·exact hc2 i (by omega)
    ·by_cases hd : 0 < (x.of.b.x - x.of.a.x) * (t.b.x - t.a.x) + (x.of.b.y - x.of.a.y) * (t.b.y - t.a.y)
     ·have hdd:=decide_eq_true hd
      have hbf : Hid (enT x t = true):=by show _ = _;unfold enT;rw [hcb.out,hdd];rfl
      gi_wp2;refine wpIn_region_held_drew (S:=Sx Y [(By,0,.int .i64 t.a.x),(By,1,.int .i64 t.a.y),(By,2,.int .i64 t.b.x),(By,3,.int .i64 t.b.y),(Bx,0,.int .i64 x.mid.x),(Bx,1,.int .i64 x.mid.y),(Bx,2,.int .i64 (x.of.b.x - x.of.a.x)),(Bx,3,.int .i64 (x.of.b.y - x.of.a.y))]) (by kernel_rfl) (Sx.mk (by simp only [cs_iff_cons];exact ⟨g0,g1,g2,g3,e0,e1,e2,e3,cs_nil _⟩) (Below.refl _ _)).drew (fun hHeld=>?_)
      refine tkIx 0 27 ?_
      refine tkIx 1 28 ?_
      refine tkIx 2 29 ?_
      (refine ratI 3 (fun _=>trivial) (by decide +kernel) rfl (fun K hK=>?_);rw [if_pos (by kernel_rfl)];go_simp)
      refine ⟨trivial,?_⟩
      refine (callsIn_wide.2 (has_any t x.mid _ hse hsx.1)).mono ?_
      rintro e wn ⟨rfl,hbn⟩
      rw [hcb.out]
      go_simp
      (refine hK.out _ _ (hHeld.step hbn) (fun hHeld=>?_);clear hK K;(try simp only [apS,apN,siA,scZ,scS]))
      refine tkIx 4 31 ?_
      refine tkIx 5 32 ?_
      refine tkIx 6 33 ?_
      refine tkIx 7 34 ?_
      refine tkIx 8 35 ?_
      refine tkIx 9 36 ?_
      refine tkIx 10 37 ?_
      (refine ratI 11 (fun _=>trivial) (by decide +kernel) rfl (fun K hK=>?_);rw [if_pos (by kernel_rfl)];go_simp)
      refine ⟨trivial,?_⟩
      refine (callsIn_wide.2 (to_any t.a t.b _ hse.a hse.b)).mono ?_
      rintro e wn ⟨rfl,hbn⟩
      go_simp
      (refine hK.out _ _ (hHeld.step hbn) (fun hHeld=>?_);clear hK K;(try simp only [apS,apN,siA,scZ,scS]))
      have x0:=hsx.2.a.x0
      have x1:=hsx.2.a.x1
      have x2:=hsx.2.a.y0
      have x3:=hsx.2.a.y1
      have x4:=hsx.2.b.x0
      have x5:=hsx.2.b.x1
      have x6:=hsx.2.b.y0
      have x7:=hsx.2.b.y1
      have z0:=hse.a.x0
      have z1:=hse.a.x1
      have z2:=hse.a.y0
      have z3:=hse.a.y1
      have z4:=hse.b.x0
      have z5:=hse.b.x1
      have z6:=hse.b.y0
      have z7:=hse.b.y1
      (refine ratI 12 (fun _=>trivial) (by decide +kernel) rfl (fun K hK=>?_);rw [if_pos (by kernel_rfl)];go_simp)
      refine ⟨trivial,?_⟩
      refine (callsIn_wide.2 (dot_any ⟨x.of.b.x - x.of.a.x,x.of.b.y - x.of.a.y⟩ ⟨t.b.x - t.a.x,t.b.y - t.a.y⟩ _ (by dsimp only;omega) (by dsimp only;omega))).mono ?_
      rintro e wn ⟨rfl,hbn⟩
      go_simp
      (refine hK.out _ _ (hHeld.step hbn) (fun hHeld=>?_);clear hK K;(try simp only [apS,apN,siA,scZ,scS]))
      refine tkIx 13 40 ?_
      refine tkIx 14 41 ?_
      refine wpAnyInH_done (by decide +kernel) ?_ _
      have hI7:=Lib.hid (hall.out.2.1.below hHeld.bel)
      obtain ⟨rv,hrv⟩:=hI7.out.r
      have r0:=hrv.c 0 _ rfl
      have r1:=hrv.free 0 Nat.zero_lt_one
      clear hrv
      gi_wp2
      exact ⟨((keepsF_below hHeld.bel).trans (KeepsOthers.setCell _ _ _)).from _,(KpM.below hHeld.bel (by omega) (by omega)).trans (KpM.set _ (by omega) (by omega)),rfl,hj,by rw [htt.out];exact hbf.out,hI7.out.true,hall.out.2.2.2.trans ((RdP.below hHeld.bel (by omega) (by omega) (by omega)).trans (RdP.set _ (Nat.le_refl _) (by omega) (by omega) (by omega)))⟩
     ·have hdd:=decide_eq_false hd
      have hbf : Hid (enT x t = false):=by show _ = _;unfold enT;rw [hcb.out,hdd];rfl
      gi_wp2;refine wpIn_region_held_drew (S:=Sx Y [(By,0,.int .i64 t.a.x),(By,1,.int .i64 t.a.y),(By,2,.int .i64 t.b.x),(By,3,.int .i64 t.b.y),(Bx,0,.int .i64 x.mid.x),(Bx,1,.int .i64 x.mid.y),(Bx,2,.int .i64 (x.of.b.x - x.of.a.x)),(Bx,3,.int .i64 (x.of.b.y - x.of.a.y))]) (by kernel_rfl) (Sx.mk (by simp only [cs_iff_cons];exact ⟨g0,g1,g2,g3,e0,e1,e2,e3,cs_nil _⟩) (Below.refl _ _)).drew (fun hHeld=>?_)
      refine tkIx 0 27 ?_
      refine tkIx 1 28 ?_
      refine tkIx 2 29 ?_
      (refine ratI 3 (fun _=>trivial) (by decide +kernel) rfl (fun K hK=>?_);rw [if_pos (by kernel_rfl)];go_simp)
      refine ⟨trivial,?_⟩
      refine (callsIn_wide.2 (has_any t x.mid _ hse hsx.1)).mono ?_
      rintro e wn ⟨rfl,hbn⟩
      rw [hcb.out]
      go_simp
      (refine hK.out _ _ (hHeld.step hbn) (fun hHeld=>?_);clear hK K;(try simp only [apS,apN,siA,scZ,scS]))
      refine tkIx 4 31 ?_
      refine tkIx 5 32 ?_
      refine tkIx 6 33 ?_
      refine tkIx 7 34 ?_
      refine tkIx 8 35 ?_
      refine tkIx 9 36 ?_
      refine tkIx 10 37 ?_
      (refine ratI 11 (fun _=>trivial) (by decide +kernel) rfl (fun K hK=>?_);rw [if_pos (by kernel_rfl)];go_simp)
      refine ⟨trivial,?_⟩
      refine (callsIn_wide.2 (to_any t.a t.b _ hse.a hse.b)).mono ?_
      rintro e wn ⟨rfl,hbn⟩
      go_simp
      (refine hK.out _ _ (hHeld.step hbn) (fun hHeld=>?_);clear hK K;(try simp only [apS,apN,siA,scZ,scS]))
      have x0:=hsx.2.a.x0
      have x1:=hsx.2.a.x1
      have x2:=hsx.2.a.y0
      have x3:=hsx.2.a.y1
      have x4:=hsx.2.b.x0
      have x5:=hsx.2.b.x1
      have x6:=hsx.2.b.y0
      have x7:=hsx.2.b.y1
      have z0:=hse.a.x0
      have z1:=hse.a.x1
      have z2:=hse.a.y0
      have z3:=hse.a.y1
      have z4:=hse.b.x0
      have z5:=hse.b.x1
      have z6:=hse.b.y0
      have z7:=hse.b.y1
      (refine ratI 12 (fun _=>trivial) (by decide +kernel) rfl (fun K hK=>?_);rw [if_pos (by kernel_rfl)];go_simp)
      refine ⟨trivial,?_⟩
      refine (callsIn_wide.2 (dot_any ⟨x.of.b.x - x.of.a.x,x.of.b.y - x.of.a.y⟩ ⟨t.b.x - t.a.x,t.b.y - t.a.y⟩ _ (by dsimp only;omega) (by dsimp only;omega))).mono ?_
      rintro e wn ⟨rfl,hbn⟩
      go_simp
      (refine hK.out _ _ (hHeld.step hbn) (fun hHeld=>?_);clear hK K;(try simp only [apS,apN,siA,scZ,scS]))
      refine tkIx 13 40 ?_
      refine tkIx 14 41 ?_
      refine wpAnyInH_done (by decide +kernel) ?_ _
      gi_wp2
      obtain ⟨hc2,hI2,bX2,hR2⟩:=hall.out
      have hz5:=hHeld.bel.size
      refine ⟨(keepsF_below hHeld.bel).from _,KpM.below hHeld.bel (by omega) (by omega),fun i hi=>?_,hI2.below hHeld.bel,bX2.below hHeld.bel,hR2.trans (RdP.below hHeld.bel (by omega) (by omega) (by omega)),by omega⟩
      by_cases hij : i = j
      ·subst hij;rw [htt.out];exact hbf.out
      ·exact hc2 i (by omega)
   case done2 =>
    rintro Y ⟨hc2,hI2,bX2,hR2,hz2⟩
    gi_wp2
    refine ⟨hR2.keeps,hR2.kp,fun i y hi hy=>?_,hI2⟩
    by_cases hik : i = k
    ·subst hik;rw [hx] at hy;cases hy;rw [hexq.out];exact sds_any_false hc2
    ·exact hcz.out i y (by omega) hy
   case stop2 =>
    rintro c j Y hj ⟨rfl,h2,h3,h4,h5⟩
    gi_wp2
    exact ⟨h5.keeps,h5.kp,rfl,pcs_any_true hx (by rw [hexq.out];exact sds_any_true hj h3),h4⟩
  ·have hex : Hid (enX ds x = false):=by show _ = _;unfold enX;rw [if_neg (by omega),if_neg (by omega)]
   gi_wp2_with (refine ⟨trivial,?_⟩;gi_at_call 48;refine (callsIn_wide.2 (where_any _ _ _ _ _ hIz.out.p hsx.1)).mono ?_;rintro e wn ⟨rfl,hbn⟩;rw [hw])
   have hbl:=hIz.out.bel.size
   refine ⟨(keepsF_below hbn).from _,KpP.below hbn (by omega) (by omega) (by omega),fun i y hi hy=>?_,hIz.out.below hbn⟩
   by_cases hik : i = k
   ·subst hik;rw [hx] at hy;cases hy;exact hex.out
   ·exact hcz.out i y (by omega) hy
 case done =>
  rintro D W hD ⟨hc,hI⟩ hK
  obtain ⟨v,hr⟩:=hI.r
  have r0:=hr.c 0 _ rfl
  have r1:=hr.free 0 Nat.zero_lt_one
  have hAll:=Lib.hid (And.intro hc (And.intro hI (And.intro hK hr)))
  clear hc hI hK hr
  gi_wp2
  obtain ⟨hc,hI,hK,hr⟩:=hAll.out
  have hr1:=hr.set 0 (.bool false) Nat.zero_lt_one
  have hK':=(KeepsOthers.setCell W ⟨w.heap.size,0,none⟩ (.bool false)).same D _ hK rfl
  have ho' : Others (W.setCell ⟨w.heap.size,0,none⟩ (.bool false)) (some D):=fun r e=>by cases e;exact ⟨_,hK',rfl⟩
  refine ⟨by simp,.inl ⟨_,_,rfl,run_takeDeferred hK',?_⟩⟩
  have q5:=(hr1.keptF (grownBy_putObj' _ D (.deferred none)) ho').c 0 _ rfl
  exact ⟨_,results_c1 rfl _ _ ⟨w.heap.size,0,none⟩ (.bool false) rfl (by simp [loadVar,go_sem,q5]),by rw [pcs_any_false hc],belowF_put (hI.bel.setCell (p:=⟨w.heap.size,0,none⟩) (Nat.le_refl _) _) (by omega) _⟩
 case stop =>
  rintro D c k W hD hk ⟨rfl,h0,hR,hB⟩ hK
  have hAll:=Lib.hid (And.intro h0 (And.intro hR (And.intro hB hK)))
  clear h0 hR hB hK
  gi_wp2
  obtain ⟨h0,hR,hB,hK⟩:=hAll.out
  have ho' : Others W (some D):=fun r e=>by cases e;exact ⟨_,hK,rfl⟩
  refine ⟨by simp,.inl ⟨_,_,rfl,run_takeDeferred hK,?_⟩⟩
  have q5:=(hR.keptF (grownBy_putObj' W D (.deferred none)) ho').c 0 _ rfl
  exact ⟨_,results_c1 rfl _ _ ⟨w.heap.size,0,none⟩ (.bool true) rfl (by simp [loadVar,go_sem,q5]),by rw [h0],belowF_put hB (by omega) _⟩
end Go.Proofs.Ythfokpchdlcidaa
namespace Go.Proofs.Ythfokpchdlcidaa
open Go Go.RowKit Go.Shelf
attribute [local go_sem] Oper.semAt_some
theorem ptB_eq {p q : Pt} (h : p = q) : ptB p q = true:=by subst h;unfold ptB;simp
theorem twiceP_get : ∀ (l s : List Pt),Cal.twiceP s l = false → (∀ p ∈ s,p ∉ l) ∧ l.Nodup
 | [],_,_=>⟨fun _ _ h=>(by cases h),List.nodup_nil⟩
 | q :: r,s,h=>by
  unfold Cal.twiceP at h
  rw [Bool.or_eq_false_iff] at h
  obtain ⟨h1,h2⟩:=h
  obtain ⟨h3,h4⟩:=twiceP_get r (q :: s) h2
  rw [List.any_eq_false] at h1
  refine ⟨fun p hp hm=>?_,List.nodup_cons.2 ⟨h3 q List.mem_cons_self,h4⟩⟩
  rcases List.mem_cons.1 hm with e | hm
  ·exact h1 p hp (ptB_eq e.symm)
  ·exact h3 p (List.mem_cons_of_mem _ hp) hm
theorem sd_ne {ps : List Pt} (hn : ps.Nodup) (hl : 2 ≤ ps.length) (i : Nat) (hi : i < ps.length) : (Cal.sd ps i).a ≠ (Cal.sd ps i).b:=by
 have hmod : (i + 1) % ps.length < ps.length:=Nat.mod_lt _ (by omega)
 rw [sd_of (List.getElem?_eq_getElem hi) (List.getElem?_eq_getElem hmod)]
 intro e
 have h:=(List.getElem_inj (h₀:=hi) (h₁:=hmod) hn).1 e
 by_cases h1 : i + 1 < ps.length
 ·rw [Nat.mod_eq_of_lt h1] at h;omega
 ·have : i + 1 = ps.length:=by omega
  rw [this,Nat.mod_self] at h;omega
structure Plg (w : World) (V : Option Addr) (ps : List Pt) : Prop where
 v : PtsV w V ps
 len : ps.length ≤ 10
 nd : ∀ i,i < ps.length → (Cal.sd ps i).a ≠ (Cal.sd ps i).b
theorem Plg.below {w w' : World} {V : Option Addr} {ps : List Pt} (h : Plg w V ps) (hb : Below w.heap.size w w') : Plg w' V ps:=⟨h.v.below hb,h.len,h.nd⟩
theorem PtsR.plg {w : World} {V : Option Addr} {ps : List Pt} (h : PtsR w V ps) (h0 : Cal.polyE ps = 0) (hl : ps.length ≤ 10) : Plg w V ps :=
 ⟨h.ptsV h0,hl,sd_ne (twiceP_get _ _ (polyE_zero h0).2.2.2.1).2 (by have:=(polyE_zero h0).1;omega)⟩
theorem overlap_any (Va Vb : Option Addr) (da db : Nat) (us vs : List Pt) (w : World) (hA : Plg w Va us) (hB : Plg w Vb vs) :
  Calls Try.prog 59 #[.slice Va us.length da,.slice Vb vs.length db] w fun e w'=>e = .returned (.bool (Cal.overlapP us vs)) ∧ Below w.heap.size w w':=by
 obtain ⟨c1,h1⟩ : ∃ c,Cal.crossP us vs = c:=⟨_,rfl⟩
 obtain ⟨c2,h2⟩ : ∃ c,Cal.entersP us vs = c:=⟨_,rfl⟩
 obtain ⟨c3,h3⟩ : ∃ c,Cal.entersP vs us = c:=⟨_,rfl⟩
 replace hA:=Lib.hid hA
 replace hB:=Lib.hid hB
 have hR : Hid (Cal.overlapP us vs = (c1 || (c2 || c3))):=by show _ = _;unfold Cal.overlapP;rw [h1,h2,h3]
 replace h1:=Lib.hid h1
 replace h2:=Lib.hid h2
 replace h3:=Lib.hid h3
 have hb : Hid (Below w.heap.size w w):=Below.refl _ _
 have m1 : Hid True:=trivial
 cases c1
 ·cases c2
  ·cases c3
   ·go_enter Try.func59,Try.ntmps59
    go_wp2_with (first | (go_at_call 87;refine (crossing_any _ _ _ _ _ _ _ (hA.out.v.below hb.out).pts (hB.out.v.below hb.out).pts).mono ?_;rintro e wn ⟨rfl,hbn⟩;rw [h1.out];replace hb:=Lib.hid (below_step hb.out hbn);clear hbn) | (go_at_call 88;clear m1;refine (enters_any _ _ _ _ _ _ _ (hA.out.v.below hb.out) (hB.out.v.below hb.out) hB.out.len hA.out.nd).mono ?_;rintro e wn ⟨rfl,hbn⟩;rw [h2.out];replace hb:=Lib.hid (below_step hb.out hbn);clear hbn) | (go_at_call 88;refine (enters_any _ _ _ _ _ _ _ (hB.out.v.below hb.out) (hA.out.v.below hb.out) hA.out.len hB.out.nd).mono ?_;rintro e wn ⟨rfl,hbn⟩;rw [h3.out];replace hb:=Lib.hid (below_step hb.out hbn);clear hbn))
    go_ret
    exact ⟨by rw [hR.out];rfl,hb.out⟩
   ·go_enter Try.func59,Try.ntmps59
    go_wp2_with (first | (go_at_call 87;refine (crossing_any _ _ _ _ _ _ _ (hA.out.v.below hb.out).pts (hB.out.v.below hb.out).pts).mono ?_;rintro e wn ⟨rfl,hbn⟩;rw [h1.out];replace hb:=Lib.hid (below_step hb.out hbn);clear hbn) | (go_at_call 88;clear m1;refine (enters_any _ _ _ _ _ _ _ (hA.out.v.below hb.out) (hB.out.v.below hb.out) hB.out.len hA.out.nd).mono ?_;rintro e wn ⟨rfl,hbn⟩;rw [h2.out];replace hb:=Lib.hid (below_step hb.out hbn);clear hbn) | (go_at_call 88;refine (enters_any _ _ _ _ _ _ _ (hB.out.v.below hb.out) (hA.out.v.below hb.out) hA.out.len hB.out.nd).mono ?_;rintro e wn ⟨rfl,hbn⟩;rw [h3.out];replace hb:=Lib.hid (below_step hb.out hbn);clear hbn))
    go_ret
    exact ⟨by rw [hR.out];rfl,hb.out⟩
  ·go_enter Try.func59,Try.ntmps59
   go_wp2_with (first | (go_at_call 87;refine (crossing_any _ _ _ _ _ _ _ (hA.out.v.below hb.out).pts (hB.out.v.below hb.out).pts).mono ?_;rintro e wn ⟨rfl,hbn⟩;rw [h1.out];replace hb:=Lib.hid (below_step hb.out hbn);clear hbn) | (go_at_call 88;clear m1;refine (enters_any _ _ _ _ _ _ _ (hA.out.v.below hb.out) (hB.out.v.below hb.out) hB.out.len hA.out.nd).mono ?_;rintro e wn ⟨rfl,hbn⟩;rw [h2.out];replace hb:=Lib.hid (below_step hb.out hbn);clear hbn) | (go_at_call 88;refine (enters_any _ _ _ _ _ _ _ (hB.out.v.below hb.out) (hA.out.v.below hb.out) hA.out.len hB.out.nd).mono ?_;rintro e wn ⟨rfl,hbn⟩;rw [h3.out];replace hb:=Lib.hid (below_step hb.out hbn);clear hbn))
   go_ret
   exact ⟨by rw [hR.out];rfl,hb.out⟩
 ·go_enter Try.func59,Try.ntmps59
  go_wp2_with (first | (go_at_call 87;refine (crossing_any _ _ _ _ _ _ _ (hA.out.v.below hb.out).pts (hB.out.v.below hb.out).pts).mono ?_;rintro e wn ⟨rfl,hbn⟩;rw [h1.out];replace hb:=Lib.hid (below_step hb.out hbn);clear hbn) | (go_at_call 88;clear m1;refine (enters_any _ _ _ _ _ _ _ (hA.out.v.below hb.out) (hB.out.v.below hb.out) hB.out.len hA.out.nd).mono ?_;rintro e wn ⟨rfl,hbn⟩;rw [h2.out];replace hb:=Lib.hid (below_step hb.out hbn);clear hbn) | (go_at_call 88;refine (enters_any _ _ _ _ _ _ _ (hB.out.v.below hb.out) (hA.out.v.below hb.out) hA.out.len hB.out.nd).mono ?_;rintro e wn ⟨rfl,hbn⟩;rw [h3.out];replace hb:=Lib.hid (below_step hb.out hbn);clear hbn))
  go_ret
  exact ⟨by rw [hR.out];rfl,hb.out⟩
end Go.Proofs.Ythfokpchdlcidaa
namespace Go.Proofs.Ythfokpchdlcidaa
open Go Go.RowKit
theorem bytes_ex (s : ByteArray) (w : World) : ∃ c W,(convert 9 132 (.string s)).run Try.prog w = .ok (.slice (some ⟨w.heap.size,0,none⟩) s.size c) W ∧ Below w.heap.size w W ∧
  ∀ k (h : k < s.size),W.cell? ⟨w.heap.size,k,none⟩ = some (.int .u8 (s[k].toNat : Int)):=by
 refine ⟨_,_,Lib.run_convert_string_bytes w 9 132 5 s Try.underlying9 Try.underlying132 Try.underlying5,⟨rfl,rfl,rfl,?_,fun k hk=>Lib.bytesWorld_at_old w _ s k hk⟩,fun k h=>?_⟩
 ·rw [Lib.bytesWorld_size];omega
 ·rw [Lib.bytesWorld_cell w _ s k h]
  congr 3
  rw [List.getD_eq_getElem?_getD]
  have : s.data.toList[k]? = some s[k]:=by
   rw [Array.getElem?_toList]
   exact Array.getElem?_eq_getElem h
  rw [this]
  rfl
def IsW (W wr : World) : Prop:=wr = W
theorem gisName_any (s : ByteArray) (w : World) (hs : s.size ≤ maxLen) :
  Calls Try.prog 54 #[.string s] w fun e w'=>e = .returned (.bool (nameB s)) ∧ Below w.heap.size w w':=by
 unfold maxLen at hs
 obtain ⟨cp,W,hcv,hbel,hcell⟩:=bytes_ex s w
 have hbW:=Lib.hid hbel
 replace hcell:=Lib.hid hcell
 clear hbel
 have hok:=okTo_zero s
 go_enter Try.func54,Try.ntmps54
 go_wp2_with fail
 have hI : IsW W W:=rfl
 go_loopw [9] (fun i wr=>∃ k : Nat,k ≤ s.size ∧ i = .int .i64 k ∧ okTo s k ∧ IsW W wr) (fun i _=>s.size - (intOf i).toNat)
 case atStart=>exact ⟨0,Nat.zero_le _,rfl,hok,hI⟩
 case round =>
  obtain ⟨k,hk,rfl,hok2,hW⟩:=hrel
  obtain rfl : wr = W:=hW
  clear hok hI
  by_cases hlt : k < s.size
  ·have hb:=byteAt_eq hlt
   have c0:=hcell.out k hlt
   have hcl : (97 ≤ (s[k].toNat : Int) ∧ (s[k].toNat : Int) ≤ 122) ∨ (65 ≤ (s[k].toNat : Int) ∧ (s[k].toNat : Int) ≤ 90) ∨ (48 ≤ (s[k].toNat : Int) ∧ (s[k].toNat : Int) ≤ 57) ∨ (s[k].toNat : Int) = 45 ∨ (s[k].toNat : Int) < 45 ∨ (46 ≤ (s[k].toNat : Int) ∧ (s[k].toNat : Int) ≤ 47) ∨ (58 ≤ (s[k].toNat : Int) ∧ (s[k].toNat : Int) ≤ 64) ∨ (91 ≤ (s[k].toNat : Int) ∧ (s[k].toNat : Int) ≤ 96) ∨ 123 ≤ (s[k].toNat : Int):=by omega
   have x0 : 0 ≤ (s[k].toNat : Int):=by omega
   have hyes:=Lib.hid (fun h : okAt s k = true=>okTo_succ hok2 h)
   have hno:=Lib.hid (fun h : okAt s k = false=>nameB_no hlt h)
   generalize (s[k].toNat : Int) = x at *
   by_cases hk0 : k = 0
   ·subst hk0
    rcases hcl with ⟨ca,cb⟩ | ⟨ca,cb⟩ | ⟨ca,cb⟩ | ca | ca | ⟨ca,cb⟩ | ⟨ca,cb⟩ | ⟨ca,cb⟩ | ca
    all_goals first
     |(have hok : Hid (okTo s (0 + 1)):=hyes.out (by unfold okAt;rw [hb];simp;omega)
       try (have q0 : decide (x ≤ 90) = false:=by first | (simp;omega) | (simp;done))
       try (have q1 : decide (x ≤ 122) = false:=by first | (simp;omega) | (simp;done))
       try (have q2 : decide (x ≤ 57) = false:=by first | (simp;omega) | (simp;done))
       try (have q3 : (x != 45) = true:=by first | (simp;omega) | (simp;done))
       try (have q4 : (x == 45) = false:=by first | (simp;omega) | (simp;done))
       try (have q5 : decide (57 < x) = true:=by first | (simp;omega) | (simp;done))
       try (have q6 : decide (97 ≤ x) = false:=by first | (simp;omega) | (simp;done))
       try (have q7 : decide (65 ≤ x) = false:=by first | (simp;omega) | (simp;done))
       try (have q8 : decide (x ≤ 90) = true:=by first | (simp;omega) | (simp;done))
       try (have q9 : decide (x < 48) = true:=by first | (simp;omega) | (simp;done))
       clear hyes hno hb
       go_wp2
       go_roundw
       case rel=>exact ⟨1,by omega,rfl,hok.out,rfl⟩
       case measure=>simp [intOf];omega)
     |(have hfin : Hid (nameB s = false):=hno.out (by unfold okAt;rw [hb];simp;omega)
       try (have q0 : decide (x ≤ 90) = false:=by first | (simp;omega) | (simp;done))
       try (have q1 : decide (x ≤ 122) = false:=by first | (simp;omega) | (simp;done))
       try (have q2 : decide (x ≤ 57) = false:=by first | (simp;omega) | (simp;done))
       try (have q3 : (x != 45) = true:=by first | (simp;omega) | (simp;done))
       try (have q4 : (x == 45) = false:=by first | (simp;omega) | (simp;done))
       try (have q5 : decide (57 < x) = true:=by first | (simp;omega) | (simp;done))
       try (have q6 : decide (97 ≤ x) = false:=by first | (simp;omega) | (simp;done))
       try (have q7 : decide (65 ≤ x) = false:=by first | (simp;omega) | (simp;done))
       try (have q8 : decide (x ≤ 90) = true:=by first | (simp;omega) | (simp;done))
       try (have q9 : decide (x < 48) = true:=by first | (simp;omega) | (simp;done))
       clear hyes hno hb
       go_wp2
       go_ret
       exact ⟨ret_bool hfin.out.symm,hbW.out⟩)
   ·have hk1 : 0 < (k : Int):=by omega
    have hk2 : ((k : Int) == 0) = false:=by simp;omega
    rcases hcl with ⟨ca,cb⟩ | ⟨ca,cb⟩ | ⟨ca,cb⟩ | ca | ca | ⟨ca,cb⟩ | ⟨ca,cb⟩ | ⟨ca,cb⟩ | ca
    all_goals first
     |(have hok : Hid (okTo s (k + 1)):=hyes.out (by unfold okAt;rw [hb];simp;omega)
       try (have q0 : decide (x ≤ 90) = false:=by first | (simp;omega) | (simp;done))
       try (have q1 : decide (x ≤ 122) = false:=by first | (simp;omega) | (simp;done))
       try (have q2 : decide (x ≤ 57) = false:=by first | (simp;omega) | (simp;done))
       try (have q3 : (x != 45) = true:=by first | (simp;omega) | (simp;done))
       try (have q4 : (x == 45) = false:=by first | (simp;omega) | (simp;done))
       try (have q5 : decide (57 < x) = true:=by first | (simp;omega) | (simp;done))
       try (have q6 : decide (97 ≤ x) = false:=by first | (simp;omega) | (simp;done))
       try (have q7 : decide (65 ≤ x) = false:=by first | (simp;omega) | (simp;done))
       try (have q8 : decide (x ≤ 90) = true:=by first | (simp;omega) | (simp;done))
       try (have q9 : decide (x < 48) = true:=by first | (simp;omega) | (simp;done))
       clear hyes hno hb hk0
       go_wp2
       go_roundw
       case rel=>exact ⟨k + 1,by omega,by go_num,hok.out,rfl⟩
       case measure=>simp [intOf];omega)
     |(have hfin : Hid (nameB s = false):=hno.out (by unfold okAt;rw [hb];simp;omega)
       try (have q0 : decide (x ≤ 90) = false:=by first | (simp;omega) | (simp;done))
       try (have q1 : decide (x ≤ 122) = false:=by first | (simp;omega) | (simp;done))
       try (have q2 : decide (x ≤ 57) = false:=by first | (simp;omega) | (simp;done))
       try (have q3 : (x != 45) = true:=by first | (simp;omega) | (simp;done))
       try (have q4 : (x == 45) = false:=by first | (simp;omega) | (simp;done))
       try (have q5 : decide (57 < x) = true:=by first | (simp;omega) | (simp;done))
       try (have q6 : decide (97 ≤ x) = false:=by first | (simp;omega) | (simp;done))
       try (have q7 : decide (65 ≤ x) = false:=by first | (simp;omega) | (simp;done))
       try (have q8 : decide (x ≤ 90) = true:=by first | (simp;omega) | (simp;done))
       try (have q9 : decide (x < 48) = true:=by first | (simp;omega) | (simp;done))
       clear hyes hno hb hk0
       go_wp2
       go_ret
       exact ⟨ret_bool hfin.out.symm,hbW.out⟩)
  ·obtain rfl : k = s.size:=by omega
   by_cases h0 : s.size = 0
   ·have hfin:=Lib.hid (nameB_size (s:=s) (by omega))
    have he:=isEmpty_yes h0
    have he2 : s.toList = []:=by simpa using he
    go_wp2
    go_ret
    exact ⟨ret_bool hfin.out.symm,hbW.out⟩
   ·have he:=isEmpty_no (s:=s) (by omega)
    have he2 : ¬ s.toList = []:=by intro h;rw [h] at he;cases he
    by_cases h12 : s.size ≤ 12
    ·have hfin:=Lib.hid (nameB_yes (by omega) h12 hok2)
     go_wp2
     go_ret
     exact ⟨ret_bool (by rw [hfin.out];exact decide_eq_true (by omega)),hbW.out⟩
    ·have hfin:=Lib.hid (nameB_size (s:=s) (by omega))
     go_wp2
     go_ret
     exact ⟨ret_bool (by rw [hfin.out];exact decide_eq_false (by omega)),hbW.out⟩
end Go.Proofs.Ythfokpchdlcidaa
namespace Go.Proofs.Ythfokpchdlcidaa
open Go Go.RowKit Go.Shelf
structure Plo where
 name : ByteArray
 V : Option Addr
 d : Nat
 ps : List Pt
def Plo.cells (p : Plo) : List Value:=[.string p.name,.slice p.V p.ps.length p.d]
def sameN (p q : Plo) : Bool:=p.name.toList == q.name.toList
structure Plos (w : World) (S : Option Addr) (l : List Plo) : Prop where
 rows : RowsAt w S 2 (l.map Plo.cells)
 size : l.length ≤ 1000000
 pts : ∀ p ∈ l,PtsR w p.V p.ps
 nm : ∀ p ∈ l,p.name.size ≤ maxLen
theorem Plos.below {w w' : World} {S : Option Addr} {l : List Plo} (h : Plos w S l) (hb : Below w.heap.size w w') : Plos w' S l :=
 ⟨h.rows.below hb,h.size,fun p hp=>(h.pts p hp).below hb,h.nm⟩
theorem plo_at {w : World} {S : Option Addr} {l : List Plo} (h : RowsAt w S 2 (l.map Plo.cells)) {k : Nat} {p : Plo} (hk : l[k]? = some p) :
  ∃ b o,S = some ⟨b,o,none⟩ ∧ b < w.heap.size ∧ w.cell? ⟨b,o + k * 2,none⟩ = some (.string p.name) ∧ w.cell? ⟨b,o + k * 2 + 1,none⟩ = some (.slice p.V p.ps.length p.d):=by
 obtain ⟨b,o,hA,hlt,hc⟩:=h k p.cells (by simp [hk])
 exact ⟨b,o,hA,hlt,hc 0 _ rfl,hc 1 _ rfl⟩
theorem checkPlot1_any (q p : Plo) (B : Nat) (w : World) (h : BoxAt w B [.string p.name,.slice p.V p.ps.length p.d]) :
  Calls Try.prog 101 #[.agg #[.string q.name,.slice q.V q.ps.length q.d],.pointer (some ⟨B,0,none⟩)] w fun e w'=>e = .returned (.bool (sameN q p)) ∧ Below w.heap.size w w':=by
 have hb:=Lib.hid (below_alloc w (.cells #[.string q.name,.slice q.V q.ps.length q.d] 48))
 have c0:=(h.alloc (.cells #[.string q.name,.slice q.V q.ps.length q.d] 48)).c 0 _ rfl
 have l0:=h.lt
 go_enter Try.func101,Try.ntmps101
 go_wp2_with fail
 go_ret
 exact ⟨rfl,hb.out⟩
theorem checkPlot2_any (q p : Plo) (B : Nat) (w : World) (h : BoxAt w B [.string p.name,.slice p.V p.ps.length p.d]) (hq : Plg w q.V q.ps) (hp : Plg w p.V p.ps) :
  Calls Try.prog 103 #[.agg #[.string q.name,.slice q.V q.ps.length q.d],.pointer (some ⟨B,0,none⟩)] w fun e w'=>e = .returned (.bool (Cal.overlapP q.ps p.ps)) ∧ Below w.heap.size w w':=by
 have hb:=Lib.hid (below_alloc w (.cells #[.string q.name,.slice q.V q.ps.length q.d] 48))
 have c1:=(h.alloc (.cells #[.string q.name,.slice q.V q.ps.length q.d] 48)).c 1 _ rfl
 have l0:=h.lt
 have hq:=Lib.hid (hq.below hb.out)
 have hp:=Lib.hid (hp.below hb.out)
 go_enter Try.func103,Try.ntmps103
 go_wp2_with (refine (overlap_any q.V p.V q.d p.d q.ps p.ps _ hq.out hp.out).mono ?_;rintro e wn ⟨rfl,hbn⟩;have hb2:=Lib.hid (below_step hb.out hbn);clear hbn)
 go_ret
 exact ⟨rfl,hb2.out⟩
def idxP (g : Plo → Bool) : List Plo → Int
 | []=>-1
 | p :: r=>if g p = true then 0 else if idxP g r < 0 then -1 else idxP g r + 1
theorem idxP_ge (g : Plo → Bool) : ∀ l,-1 ≤ idxP g l
 | []=>by simp [idxP]
 | p :: r=>by
  have:=idxP_ge g r
  unfold idxP
  split
  ·omega
  ·split <;> omega
theorem idxP_at {g : Plo → Bool} : ∀ {l : List Plo} {k : Nat} {p : Plo},l[k]? = some p → (l.take k).any g = false → g p = true → idxP g l = k
 | [],k,p,h,_,_=>by simp at h
 | q :: r,0,p,h,_,hg=>by
  have e : q = p:=by simpa using h
  subst e
  unfold idxP
  rw [if_pos hg];rfl
 | q :: r,k + 1,p,h,ha,hg=>by
  rw [List.take_succ_cons,List.any_cons,Bool.or_eq_false_iff] at ha
  have ih:=idxP_at (l:=r) (k:=k) (p:=p) (by simpa using h) ha.2 hg
  unfold idxP
  rw [if_neg (by rw [ha.1];decide),ih,if_neg (by omega)]
  omega
theorem idxP_no {g : Plo → Bool} : ∀ {l : List Plo},l.any g = false → idxP g l = -1
 | [],_=>rfl
 | q :: r,h=>by
  rw [List.any_cons,Bool.or_eq_false_iff] at h
  unfold idxP
  rw [if_neg (by rw [h.1];decide),idxP_no h.2]
  rfl
theorem idxP_any (g : Plo → Bool) : ∀ l,decide (0 ≤ idxP g l) = l.any g
 | []=>rfl
 | q :: r=>by
  have ih:=idxP_any g r
  unfold idxP
  rw [List.any_cons]
  cases hq : g q
  ·rw [if_neg (by decide),Bool.false_or,← ih]
   by_cases h : idxP g r < 0
   ·rw [if_pos h,decide_eq_false (by omega),decide_eq_false (by omega)]
   ·rw [if_neg h,decide_eq_true (by omega),decide_eq_true (by omega)]
  ·rw [if_pos rfl];rfl
theorem IndexPl1_any (g : Plo → Bool) (S : Option Addr) (e : Nat) (l : List Plo) (B : Nat) (w : World) (h : RowsAt w S 2 (l.map Plo.cells)) (hs : l.length ≤ 1000000)
  (hf : ∀ (q : Plo) (W : World),q ∈ l → Below w.heap.size w W → Calls Try.prog 101 #[.agg #[.string q.name,.slice q.V q.ps.length q.d],.pointer (some ⟨B,0,none⟩)] W fun e w'=>e = .returned (.bool (g q)) ∧ Below W.heap.size W w') :
  Calls Try.prog 51 #[.slice S l.length e,.func (.func 101) #[] #[.pointer (some ⟨B,0,none⟩)]] w fun en w'=>en = .returned (.int .i64 (idxP g l)) ∧ Below w.heap.size w w':=by
 have h':=Lib.hid h
 replace hf:=Lib.hid hf
 have hinit : Hid ((l.take 0).any g = false):=rfl
 have hb0:=Lib.hid (Below.refl w.heap.size w)
 clear h
 go_enter Try.func51,Try.ntmps51
 go_wp2_with fail
 go_loopw [8] (fun i wr=>∃ k : Nat,k ≤ l.length ∧ i = .int .i64 k ∧ Hid ((l.take k).any g = false) ∧ Hid (Below w.heap.size w wr)) (fun i _=>l.length - (intOf i).toNat)
 case atStart=>exact ⟨0,Nat.zero_le _,rfl,hinit,hb0⟩
 case round =>
  clear hb0
  obtain ⟨k,hk,rfl,hall,hb⟩:=hrel
  clear hinit
  by_cases hlt : k < l.length
  ·have hk' : l[k]? = some l[k]:=List.getElem?_eq_getElem hlt
   obtain ⟨b,o,rfl,hbl,e0,e1⟩:=plo_at (h'.out.below hb.out) hk'
   have htk:=Lib.hid (List.take_succ_eq_append_getElem hlt)
   have hmem : Hid (l[k] ∈ l):=List.getElem_mem hlt
   have hkk:=Lib.hid hk'
   clear hk'
   generalize l[k] = s at *
   cases hin : g s
   ·have hnx : Hid ((l.take (k + 1)).any g = false):=by show _ = _;rw [htk.out,List.any_append,hall.out];simpa using hin
    have hin:=Lib.hid hin
    go_wp2_with (go_at_call 101;refine (hf.out s _ hmem.out hb.out).mono ?_;rintro e w' ⟨rfl,hbn⟩;rw [hin.out];have hb:=Lib.hid (below_step hb.out hbn);clear hbn)
    go_roundw
    case rel=>exact ⟨k + 1,by omega,by go_num,hnx,hb⟩
    case measure=>simp [intOf];omega
   ·have hfin : Hid (idxP g l = k):=idxP_at hkk.out hall.out hin
    have hin:=Lib.hid hin
    go_wp2_with (go_at_call 101;refine (hf.out s _ hmem.out hb.out).mono ?_;rintro e w' ⟨rfl,hbn⟩;rw [hin.out];have hb:=Lib.hid (below_step hb.out hbn);clear hbn)
    go_ret
    exact ⟨ret_int hfin.out.symm,hb.out⟩
  ·have hfin : Hid (idxP g l = -1):=by
    have h:=hall.out
    rw [List.take_of_length_le (by omega)] at h
    exact idxP_no h
   have hge : l.length = k:=by omega
   clear hall
   go_wp2_with fail
   go_ret
   exact ⟨ret_int hfin.out.symm,hb.out⟩
theorem ContainsPl1_any (g : Plo → Bool) (S : Option Addr) (e : Nat) (l : List Plo) (B : Nat) (w : World) (h : RowsAt w S 2 (l.map Plo.cells)) (hs : l.length ≤ 1000000)
  (hf : ∀ (q : Plo) (W : World),q ∈ l → Below w.heap.size w W → Calls Try.prog 101 #[.agg #[.string q.name,.slice q.V q.ps.length q.d],.pointer (some ⟨B,0,none⟩)] W fun e w'=>e = .returned (.bool (g q)) ∧ Below W.heap.size W w') :
  Calls Try.prog 100 #[.slice S l.length e,.func (.func 101) #[] #[.pointer (some ⟨B,0,none⟩)]] w fun en w'=>en = .returned (.bool (l.any g)) ∧ Below w.heap.size w w':=by
 have hi:=Lib.hid (IndexPl1_any g S e l B w h hs hf)
 have h2:=Lib.hid (idxP_any g l)
 have hge:=idxP_ge g l
 obtain ⟨i,hi'⟩ : ∃ i,idxP g l = i:=⟨_,rfl⟩
 rw [hi'] at hge h2 hi
 clear hi' hf
 go_enter Try.func100,Try.ntmps100
 go_wp2_with fail
 refine hi.out.mono ?_
 rintro e w' ⟨rfl,hb⟩
 have hb:=Lib.hid hb
 go_wp2_with fail
 go_ret
 exact ⟨by first | rfl | exact ret_bool h2.out,hb.out⟩
theorem IndexPl2_any (g : Plo → Bool) (S : Option Addr) (e : Nat) (l : List Plo) (B : Nat) (w : World) (h : RowsAt w S 2 (l.map Plo.cells)) (hs : l.length ≤ 1000000)
  (hf : ∀ (q : Plo) (W : World),q ∈ l → Below w.heap.size w W → Calls Try.prog 103 #[.agg #[.string q.name,.slice q.V q.ps.length q.d],.pointer (some ⟨B,0,none⟩)] W fun e w'=>e = .returned (.bool (g q)) ∧ Below W.heap.size W w') :
  Calls Try.prog 51 #[.slice S l.length e,.func (.func 103) #[] #[.pointer (some ⟨B,0,none⟩)]] w fun en w'=>en = .returned (.int .i64 (idxP g l)) ∧ Below w.heap.size w w':=by
 have h':=Lib.hid h
 replace hf:=Lib.hid hf
 have hinit : Hid ((l.take 0).any g = false):=rfl
 have hb0:=Lib.hid (Below.refl w.heap.size w)
 clear h
 go_enter Try.func51,Try.ntmps51
 go_wp2_with fail
 go_loopw [8] (fun i wr=>∃ k : Nat,k ≤ l.length ∧ i = .int .i64 k ∧ Hid ((l.take k).any g = false) ∧ Hid (Below w.heap.size w wr)) (fun i _=>l.length - (intOf i).toNat)
 case atStart=>exact ⟨0,Nat.zero_le _,rfl,hinit,hb0⟩
 case round =>
  clear hb0
  obtain ⟨k,hk,rfl,hall,hb⟩:=hrel
  clear hinit
  by_cases hlt : k < l.length
  ·have hk' : l[k]? = some l[k]:=List.getElem?_eq_getElem hlt
   obtain ⟨b,o,rfl,hbl,e0,e1⟩:=plo_at (h'.out.below hb.out) hk'
   have htk:=Lib.hid (List.take_succ_eq_append_getElem hlt)
   have hmem : Hid (l[k] ∈ l):=List.getElem_mem hlt
   have hkk:=Lib.hid hk'
   clear hk'
   generalize l[k] = s at *
   cases hin : g s
   ·have hnx : Hid ((l.take (k + 1)).any g = false):=by show _ = _;rw [htk.out,List.any_append,hall.out];simpa using hin
    have hin:=Lib.hid hin
    go_wp2_with (go_at_call 103;refine (hf.out s _ hmem.out hb.out).mono ?_;rintro e w' ⟨rfl,hbn⟩;rw [hin.out];have hb:=Lib.hid (below_step hb.out hbn);clear hbn)
    go_roundw
    case rel=>exact ⟨k + 1,by omega,by go_num,hnx,hb⟩
    case measure=>simp [intOf];omega
   ·have hfin : Hid (idxP g l = k):=idxP_at hkk.out hall.out hin
    have hin:=Lib.hid hin
    go_wp2_with (go_at_call 103;refine (hf.out s _ hmem.out hb.out).mono ?_;rintro e w' ⟨rfl,hbn⟩;rw [hin.out];have hb:=Lib.hid (below_step hb.out hbn);clear hbn)
    go_ret
    exact ⟨ret_int hfin.out.symm,hb.out⟩
  ·have hfin : Hid (idxP g l = -1):=by
    have h:=hall.out
    rw [List.take_of_length_le (by omega)] at h
    exact idxP_no h
   have hge : l.length = k:=by omega
   clear hall
   go_wp2_with fail
   go_ret
   exact ⟨ret_int hfin.out.symm,hb.out⟩
end Go.Proofs.Ythfokpchdlcidaa
