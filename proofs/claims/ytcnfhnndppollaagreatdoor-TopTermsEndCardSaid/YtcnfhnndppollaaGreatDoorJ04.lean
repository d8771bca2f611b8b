/- What the statements rest on: definitions and walks, part 04. -/
import Derived.Test.YtcnfhnndppollaaGreatDoorJ03
import Derived.Lib.SliceRun
set_option maxRecDepth 100000
set_option maxHeartbeats 16000000
set_option linter.unusedSimpArgs false
set_option linter.unusedVariables false
namespace Go.Proofs.YtcnfhnndppollaaGreatDoor
open Go Go.RowKit
theorem cmpPa_any (n s:ByteArray) (x y:Int) (w:World):Calls Tryz.prog 87 #[.agg #[.string n,.int .i64 x,.int .i64 y],.string s] w fun e w'=>e=.returned (.int .i64 (Lib.compareBytes n.data.toList s.data.toList))∧Below w.heap.size w w':=by
 have h:=fun w=>Tryz.strings_Compare n s w
 go_enter Tryz.func87,Tryz.ntmps87
 go_wp2_with (go_at_call 82;refine (h _).mono ?_;rintro e9 w9 ⟨rfl,rfl⟩)
 go_ret
 exact⟨rfl,below_alloc _ _⟩
theorem pa_two {w:World} {A:Option Addr} {p q:Pa} (h:RowsAt w A 3 ([p,q].map Pa.cells)):∃ b o,A=some ⟨b,o,none⟩∧b<w.heap.size∧(w.cell? ⟨b,o,none⟩=some (.string p.name)∧w.cell? ⟨b,o+1,none⟩=some (.int .i64 p.n)∧w.cell? ⟨b,o+2,none⟩=some (.int .i64 p.d))∧(w.cell? ⟨b,o+3,none⟩=some (.string q.name)∧w.cell? ⟨b,o+3+1,none⟩=some (.int .i64 q.n)∧w.cell? ⟨b,o+3+2,none⟩=some (.int .i64 q.d)):=by
 obtain⟨b,o,hA,hb,h0⟩:=h 0 _ rfl
 obtain⟨b',o',hA',_,h1⟩:=h 1 _ rfl
 rw[hA] at hA'
 cases hA'
 exact⟨b,o,hA,hb,⟨h0 0 _ rfl,h0 1 _ rfl,h0 2 _ rfl⟩,⟨h1 0 _ rfl,h1 1 _ rfl,h1 2 _ rfl⟩⟩
theorem cmp_ann_ann:Lib.compareBytes (⟨#[97,110,110]⟩:ByteArray).data.toList (⟨#[97,110,110]⟩:ByteArray).data.toList=0:=by decide
theorem cmp_bob_cat:Lib.compareBytes (⟨#[98,111,98]⟩:ByteArray).data.toList (⟨#[99,97,116]⟩:ByteArray).data.toList=-1:=by decide
theorem cmp_bob_dan:Lib.compareBytes (⟨#[98,111,98]⟩:ByteArray).data.toList (⟨#[100,97,110]⟩:ByteArray).data.toList=-1:=by decide
theorem cmp_cat_dan:Lib.compareBytes (⟨#[99,97,116]⟩:ByteArray).data.toList (⟨#[100,97,110]⟩:ByteArray).data.toList=-1:=by decide
theorem Search_nil (A:Option Addr) (c:Nat) (s:ByteArray) (w:World):Calls Tryz.prog 86 #[.slice A 0 c,.string s,.func (.func 87) #[] #[]] w fun e w'=>e=.returned (.tuple #[.int .i64 0,.bool false])∧Below w.heap.size w w':=by
 go_enter Tryz.func86,Tryz.ntmps86
 go_wp2
 refine wp_unroll 1 ?_
 unfold unroll
 go_wp2
 go_ret2
 exact⟨rfl,Below.refl _ _⟩
theorem Search_hit (A:Option Addr) (c:Nat) (x y:Int) (w:World) (h:RowsAt w A 3 ([⟨⟨#[97,110,110]⟩,x,y⟩].map Pa.cells)):Calls Tryz.prog 86 #[.slice A 1 c,.string ⟨#[97,110,110]⟩,.func (.func 87) #[] #[]] w fun e w'=>e=.returned (.tuple #[.int .i64 0,.bool true])∧Below w.heap.size w w':=by
 have hz:=Lib.hid (fun W (hb:Below w.heap.size w W)=>pa_at (h.below hb))
 obtain⟨b,o,hA,hbl,p0,p1,p2⟩:=pa_at h
 subst hA
 clear h
 have hc:=Lib.hid (fun W=>cmpPa_any ⟨#[97,110,110]⟩ ⟨#[97,110,110]⟩ x y W)
 rw[cmp_ann_ann] at hc
 have hb:=Lib.hid (Below.refl w.heap.size w)
 go_enter Tryz.func86,Tryz.ntmps86
 go_wp2
 refine wp_unroll 2 ?_
 unfold unroll
 go_wp2_with (go_at_call 87;clear p0 p1 p2;refine (hc.out _).mono ?_;rintro e9 wn ⟨rfl,hbn⟩;replace hb:=Lib.hid (below_step hb.out hbn);clear hbn;obtain⟨b9,o9,hA9,_,p0,p1,p2⟩:=hz.out _ hb.out;cases hA9)
 unfold unroll
 go_wp2_with (go_at_call 87;clear p0 p1 p2;refine (hc.out _).mono ?_;rintro e9 wn ⟨rfl,hbn⟩;replace hb:=Lib.hid (below_step hb.out hbn);clear hbn;obtain⟨b9,o9,hA9,_,p0,p1,p2⟩:=hz.out _ hb.out;cases hA9)
 go_ret2
 exact⟨rfl,hb.out⟩
theorem Search_cat (A:Option Addr) (c:Nat) (x y:Int) (w:World) (h:RowsAt w A 3 ([⟨⟨#[98,111,98]⟩,x,y⟩].map Pa.cells)):Calls Tryz.prog 86 #[.slice A 1 c,.string ⟨#[99,97,116]⟩,.func (.func 87) #[] #[]] w fun e w'=>e=.returned (.tuple #[.int .i64 1,.bool false])∧Below w.heap.size w w':=by
 have hz:=Lib.hid (fun W (hb:Below w.heap.size w W)=>pa_at (h.below hb))
 obtain⟨b,o,hA,hbl,p0,p1,p2⟩:=pa_at h
 subst hA
 clear h
 have hc:=Lib.hid (fun W=>cmpPa_any ⟨#[98,111,98]⟩ ⟨#[99,97,116]⟩ x y W)
 rw[cmp_bob_cat] at hc
 have hb:=Lib.hid (Below.refl w.heap.size w)
 go_enter Tryz.func86,Tryz.ntmps86
 go_wp2
 refine wp_unroll 2 ?_
 unfold unroll
 go_wp2_with (go_at_call 87;clear p0 p1 p2;refine (hc.out _).mono ?_;rintro e9 wn ⟨rfl,hbn⟩;replace hb:=Lib.hid (below_step hb.out hbn);clear hbn;obtain⟨b9,o9,hA9,_,p0,p1,p2⟩:=hz.out _ hb.out;cases hA9)
 unfold unroll
 go_wp2_with (go_at_call 87;clear p0 p1 p2;refine (hc.out _).mono ?_;rintro e9 wn ⟨rfl,hbn⟩;replace hb:=Lib.hid (below_step hb.out hbn);clear hbn;obtain⟨b9,o9,hA9,_,p0,p1,p2⟩:=hz.out _ hb.out;cases hA9)
 go_ret2
 exact⟨rfl,hb.out⟩
theorem Search_dan (A:Option Addr) (c:Nat) (x y x' y':Int) (w:World) (h:RowsAt w A 3 ([⟨⟨#[98,111,98]⟩,x,y⟩,⟨⟨#[99,97,116]⟩,x',y'⟩].map Pa.cells)):Calls Tryz.prog 86 #[.slice A 2 c,.string ⟨#[100,97,110]⟩,.func (.func 87) #[] #[]] w fun e w'=>e=.returned (.tuple #[.int .i64 2,.bool false])∧Below w.heap.size w w':=by
 have hz:=Lib.hid (fun W (hb:Below w.heap.size w W)=>pa_two (h.below hb))
 obtain⟨b,o,hA,hbl,⟨p0,p1,p2⟩,⟨q0,q1,q2⟩⟩:=pa_two h
 subst hA
 clear h
 have hc1:=Lib.hid (fun W=>cmpPa_any ⟨#[98,111,98]⟩ ⟨#[100,97,110]⟩ x y W)
 rw[cmp_bob_dan] at hc1
 have hc2:=Lib.hid (fun W=>cmpPa_any ⟨#[99,97,116]⟩ ⟨#[100,97,110]⟩ x' y' W)
 rw[cmp_cat_dan] at hc2
 have hb:=Lib.hid (Below.refl w.heap.size w)
 go_enter Tryz.func86,Tryz.ntmps86
 go_wp2
 refine wp_unroll 3 ?_
 unfold unroll
 go_wp2_with (go_at_call 87;clear p0 p1 p2 q0 q1 q2;refine (hc2.out _).mono ?_;rintro e9 wn ⟨rfl,hbn⟩;replace hb:=Lib.hid (below_step hb.out hbn);clear hbn;obtain⟨b9,o9,hA9,_,⟨p0,p1,p2⟩,⟨q0,q1,q2⟩⟩:=hz.out _ hb.out;cases hA9)
 unfold unroll
 go_wp2
 go_ret2
 exact⟨rfl,hb.out⟩
end Go.Proofs.YtcnfhnndppollaaGreatDoor
namespace Go.Proofs.YtcnfhnndppollaaGreatDoor
open Go Go.RowKit
theorem rows_drop {w:World} {A:Option Addr} {m:Nat} {rows:List (List Value)} (h:RowsAt w A m rows) (k:Nat):RowsAt w (A.map (·.add (k*m))) m (rows.drop k):=fun j r hr=>by
 rw[List.getElem?_drop] at hr
 obtain⟨b,o,hA,hb,hc⟩:=h _ r hr
 refine⟨b,o+k*m,?_,hb,fun i v hv=>?_⟩
 ·rw[hA,Option.map_some,addr_add]
 have:=hc i v hv
 rw[show o+k*m+(j*m+i)=o+((k+j)*m+i) by rw[Nat.add_mul];omega]
 exact this
theorem OwnL.capN {w:World} {B c n:Nat} {E:TypeId} {m:Nat} {A:Option Addr} {rows:List (List Value)} (h:OwnL w B E m (.slice A n c) rows):n=rows.length∧n≤c:=by
 obtain⟨A0,c0,hv,hr⟩:=h.form
 simp only[Value.slice.injEq] at hv
 obtain⟨rfl,rfl,rfl⟩:=hv
 refine⟨rfl,?_⟩
 rcases h.own.2 with ⟨h1,h2⟩ | ⟨g,cap,cur,hv,_,_,h3,_⟩
 ·omega
 simp only[Value.slice.injEq,true_and] at hv;omega
theorem OwnL.tail {t:TypeId} {w:World} {B c n:Nat} {E:TypeId} {m:Nat} {A:Option Addr} {rows:List (List Value)} (h:OwnL w B E m (.slice A n c) rows) (hu:Tryz.prog.underlying t=some (.slice (Tryz.prog.elem t))) (hz:∀ w,(sizeOf (Tryz.prog.elem t)).run Tryz.prog w=.ok m w) {k:Nat} (hk:k≤n) :
  ∃ A2 c2,(∀ w',(Instr.slice t (.slice A n c) (some (.int .i64 k)) none none).run Tryz.prog w'=.ok (.slice A2 (n-k) c2) w')∧RowsAt w A2 m (rows.drop k):=by
 obtain⟨A0,c0,hv,hr⟩:=h.form
 obtain⟨_,hcap⟩:=h.capN
 simp only[Value.slice.injEq] at hv
 obtain⟨rfl,rfl,rfl⟩:=hv
 refine⟨if c=k then A else A.map (·.add (k*m)),c-k,fun w'=>?_,?_⟩
 ·rw[run_slice_l w' t A rows.length c hu .i64 k (by omega) (by omega),hz]
  simp[Result.andThen,sliced]
 split
 ·have:rows.drop k=[]:=List.drop_eq_nil_of_le (by omega)
  rw[this]
  exact RowsAt.nil _ _ _
 exact rows_drop hr k
theorem rows_far {w w':World} {row:Option Nat} {A:Option Addr} {m:Nat} {rows:List (List Value)} (h:RowsAt w A m rows) (hg:w.grownBy w' row) (hne:∀ a,A=some a→some a.block≠row):RowsAt w' A m rows:=fun k r hr=>by
 obtain⟨b,o,hA,hlt,hc⟩:=h k r hr
 exact⟨b,o,hA,Nat.lt_of_lt_of_le hlt hg.size,fun j v hv=>hg.cell (hc j v hv) (show some b≠row from hne ⟨b,o,none⟩ hA)⟩
end Go.Proofs.YtcnfhnndppollaaGreatDoor
namespace Go.Proofs.YtcnfhnndppollaaGreatDoor
open Go Go.RowKit
theorem elemPa:Elem Tryz.prog 36 35 3 32:=Elem.mk' Tryz.underlying36 (z:=.agg #[.string ⟨#[]⟩,.int .i64 0,.int .i64 0]) (by kernel_rfl) rfl (by decide)
def SrP (i:Int) (ok:Bool) (w:World) (e:Ending) (w':World):Prop:=e=.returned (.tuple #[.int .i64 i,.bool ok])∧Below w.heap.size w w'
theorem find_of (b n c:Nat) (pl s:ByteArray) (cl fr en i:Int) (ok:Bool) (A:Option Addr) (D:Value) (w:World) (hx:BoxAt w b [.string pl,.int .i64 cl,.int .i64 fr,.int .i64 en,.slice A n c,D]) (hs:Calls Tryz.prog 86 #[.slice A n c,.string s,.func (.func 87) #[] #[]] w (SrP i ok w)) :
  Calls Tryz.prog 72 #[.pointer (some ⟨b,0,none⟩),.string s] w (SrP i ok w):=by
 have c4:=hx.c 4 _ rfl
 clear hx
 replace hs:=Lib.hid hs
 go_enter Tryz.func72,Tryz.ntmps72
 go_wp2_with (go_at_call 86;clear c4;refine hs.out.mono ?_;rintro e9 wn ⟨rfl,hbn⟩;replace hbn:=Lib.hid hbn)
 go_ret2
 exact⟨rfl,hbn.out⟩
theorem share_none (b n c:Nat) (pl s:ByteArray) (cl fr en i:Int) (A:Option Addr) (D:Value) (w:World) (hx:BoxAt w b [.string pl,.int .i64 cl,.int .i64 fr,.int .i64 en,.slice A n c,D]) (hs:∀ W,Below w.heap.size w W→Calls Tryz.prog 86 #[.slice A n c,.string s,.func (.func 87) #[] #[]] W (SrP i false W)) :
  Calls Tryz.prog 56 #[.pointer (some ⟨b,0,none⟩),.string s] w fun e w'=>e=.returned (.agg #[.int .i64 0,.int .i64 1])∧Below w.heap.size w w':=by
 have hf:=Lib.hid (fun W (hb:Below w.heap.size w W)=>find_of b n c pl s cl fr en i false A D W (hx.below hb) (hs W hb))
 have ha:=Lib.hid (below_alloc w (.cells #[.int .i64 0,.int .i64 0] 33))
 have hbx:=Lib.hid (BoxAt.new w #[.int .i64 0,.int .i64 0] 33)
 clear hx hs
 go_enter Tryz.func56,Tryz.ntmps56
 go_wp2_with (first
  |(go_at_call 72;refine (hf.out _ ha.out).mono ?_;rintro e9 wn ⟨rfl,hbn⟩;have hby:=Lib.hid (hbx.out.below hbn);replace ha:=Lib.hid (below_step ha.out hbn);clear hbn)
  |(refine wpList_store_box rfl 33 (.tmp 4) (.tmp 22) rfl w.heap.size _ [.int .i64 0,.int .i64 1] (by rfl) (by rfl) hby.out rfl frSize (by kernel_rfl) ?_;intro w4 h4 hg4))
 refine bodyPost_ret (results_mid1 rfl _ _ w.heap.size [.int .i64 0,.int .i64 1] _ rfl h4.range Tryz.underlying33 rfl frSize) rfl ⟨rfl,below_of_grownB ha.out hg4 (by omega)⟩
theorem share_ann (b c:Nat) (pl:ByteArray) (cl fr en x y:Int) (A:Option Addr) (D:Value) (w:World) (hx:BoxAt w b [.string pl,.int .i64 cl,.int .i64 fr,.int .i64 en,.slice A 1 c,D]) (hr:RowsAt w A 3 ([⟨⟨#[97,110,110]⟩,x,y⟩].map Pa.cells)) :
  Calls Tryz.prog 56 #[.pointer (some ⟨b,0,none⟩),.string ⟨#[97,110,110]⟩] w fun e w'=>e=.returned (.agg #[.int .i64 x,.int .i64 y])∧Below w.heap.size w w':=by
 have hf:=Lib.hid (fun W (hb:Below w.heap.size w W)=>find_of b 1 c pl ⟨#[97,110,110]⟩ cl fr en 0 true A D W (hx.below hb) (Search_hit A c x y W (hr.below hb)))
 have hq:=Lib.hid (fun W (hb:Below w.heap.size w W)=>hx.below hb)
 have hp:=Lib.hid (fun W (hb:Below w.heap.size w W)=>pa_at (hr.below hb))
 have ha:=Lib.hid (below_alloc w (.cells #[.int .i64 0,.int .i64 0] 33))
 have hbx:=Lib.hid (BoxAt.new w #[.int .i64 0,.int .i64 0] 33)
 obtain⟨b1,o1,hA,_⟩:=pa_at hr
 subst hA
 clear hx hr
 go_enter Tryz.func56,Tryz.ntmps56
 go_wp2_with (first
  |(go_at_call 72;refine (hf.out _ ha.out).mono ?_;rintro e9 wn ⟨rfl,hbn⟩;have hby:=Lib.hid (hbx.out.below hbn);replace ha:=Lib.hid (below_step ha.out hbn);clear hbn;have c4:=(hq.out _ ha.out).c 4 _ rfl;obtain⟨b9,o9,hA9,_,p0,p1,p2⟩:=hp.out _ ha.out;cases hA9)
  |(refine wpList_store_box rfl 33 (.tmp 4) (.tmp 21) rfl w.heap.size _ [.int .i64 x,.int .i64 y] (by rfl) (by rfl) hby.out rfl frSize (by kernel_rfl) ?_;intro w4 h4 hg4))
 refine bodyPost_ret (results_mid1 rfl _ _ w.heap.size [.int .i64 x,.int .i64 y] _ rfl h4.range Tryz.underlying33 rfl frSize) rfl ⟨rfl,below_of_grownB ha.out hg4 (by omega)⟩
def InsP (w:World) (B:Nat) (v:Value) (rows:List (List Value)) (e:Ending) (w':World):Prop:=∃ v',e=.returned v'∧OwnL w' B 35 3 v' rows∧w.grownBy w' v.ownBlock
theorem pa_wid (l:List Pa):∀ r∈l.map Pa.cells,r.length=3:=fun r hr=>by obtain⟨x,_,rfl⟩:=List.mem_map.1 hr;rfl
theorem pa_one (l:List Pa):∀ r∈l.map Pa.cells,∀ u∈r,u.oneCell'=true:=fun r hr u hu=>by
 obtain⟨x,_,rfl⟩:=List.mem_map.1 hr
 unfold Pa.cells at hu
 simp only[List.mem_cons,List.not_mem_nil,or_false] at hu
 rcases hu with rfl | rfl | rfl <;> rfl
theorem Insert_end (A A2:Option Addr) (n c B:Nat) (l:List Pa) (x:Pa) (w:World) (h:OwnL w B 35 3 (.slice A n c) (l.map Pa.cells)) (hr:RowsAt w A2 3 ([x].map Pa.cells)) (hl:l.length≤1000) (hB:B≤w.heap.size) :
  Calls Tryz.prog 74 #[.slice A n c,.int .i64 n,.slice A2 1 1] w (InsP w B (.slice A n c) ((l ++ [x]).map Pa.cells)):=by
 obtain⟨A4,c4,hsl,_⟩:=h.tail undPa sizePa (Nat.le_refl n)
 have hn:=Lib.hid h.capN
 have hnn:n≤1000:=by have:=hn.out.1;rw[List.length_map] at this;omega
 have h:=Lib.hid h
 have hr:=Lib.hid hr
 go_enter Tryz.func74,Tryz.ntmps74
 go_wp2_with (at_builtin;refine wpList_append_rows elemPa rfl _ _ rfl rfl rfl h.out hr.out rfl (pa_wid [x]) (pa_one [x]) (by rw[List.length_map];simp;omega) (by decide) hB ?_;intro v6 w6 hown6 hg6 _;replace hown6:=Lib.hid hown6;replace hg6:=Lib.hid hg6)
 go_ret
 refine⟨_,rfl,?_,hg6.out⟩
 rw[List.map_append]
 exact hown6.out
end Go.Proofs.YtcnfhnndppollaaGreatDoor
namespace Go.Proofs.YtcnfhnndppollaaGreatDoor
open Go Go.RowKit
structure Sc (L:List (Nat × Nat × Value)) (W:World):Prop where
 cs:Cs L W
theorem Sc.below {L:List (Nat × Nat × Value)} {W W':World} (h:Sc L W) (hb:Below W.heap.size W W'):Sc L W':=⟨h.cs.below hb⟩
def SetP (w:World) (b:Nat) (pl:ByteArray) (cl fr en:Int) (D:Value) (l:List Pa) (e:Ending) (w':World):Prop :=
 e=.returned (.tuple #[])∧∃ A n c,BoxAt w' b [.string pl,.int .i64 cl,.int .i64 fr,.int .i64 en,.slice A n c,D]∧OwnL w' (b+1) 35 3 (.slice A n c) (l.map Pa.cells)∧Below b w w'∧∀ B cs t,w.heap[B]?=some (.cells cs t (0,0))→t≠35→B≠b→w'.heap[B]?=some (.cells cs t (0,0))
theorem keep_other {w X Y:World} {b B t:Nat} {v:Value} {rows:List (List Value)} {cs:Array Value} (ho:OwnL w b 35 3 v rows) (hX:Below w.heap.size w X) (hg:X.grownBy Y v.ownBlock) (hB:w.heap[B]?=some (.cells cs t (0,0))) (ht:t≠35):Y.heap[B]?=some (.cells cs t (0,0)):=by
 have hlt:B<w.heap.size:=(Array.getElem?_eq_some_iff.1 hB).1
 rw[hg.block B (by have:=hX.size;omega) (fun e=>?_),hX.block B hlt,hB]
 rcases ho.own.2 with ⟨h0,_⟩ | ⟨g,cap,cur,hv,_,hg2,_⟩
 ·rw[h0] at e;cases e
 rw[hv] at e
 have:B=g:=Option.some.inj e
 subst this
 rw[hg2] at hB
 cases hB
 exact ht rfl
theorem set_put (b n c:Nat) (pl s:ByteArray) (cl fr en x y:Int) (A:Option Addr) (D:Value) (l:List Pa) (w:World) (hx:BoxAt w b [.string pl,.int .i64 cl,.int .i64 fr,.int .i64 en,.slice A n c,D]) (ho:OwnL w (b+1) 35 3 (.slice A n c) (l.map Pa.cells)) (hl:l.length≤100) (h0:(x == 0)=false)
  (hs:∀ W,Below w.heap.size w W→Calls Tryz.prog 86 #[.slice A n c,.string s,.func (.func 87) #[] #[]] W (SrP n false W)) :
  Calls Tryz.prog 55 #[.pointer (some ⟨b,0,none⟩),.string s,.agg #[.int .i64 x,.int .i64 y]] w (SetP w b pl cl fr en D (l ++ [⟨s,x,y⟩])):=by
 have hf:=Lib.hid (fun W (hb:Below w.heap.size w W)=>find_of b n c pl s cl fr en n false A D W (hx.below hb) (hs W hb))
 have ha:=Lib.hid (below_alloc w (.cells #[.int .i64 x,.int .i64 y] 33))
 have hfr:=Lib.hid (BoxAt.new w #[.int .i64 x,.int .i64 y] 33)
 replace hx:=Lib.hid hx
 have hvb:=Lib.hid (fun g (e1:Value.ownBlock (.slice A n c)=some g)=>(ho.lt g e1).2)
 replace ho:=Lib.hid ho
 have hb0:b<w.heap.size:=hx.out.lt
 have hnl:=Lib.hid ho.out.capN
 clear hs
 go_enter Tryz.func55,Tryz.ntmps55
 go_upto_region 2 with (first
  |(go_at_call 72;refine (hf.out _ ha.out).mono ?_;rintro e9 w2 ⟨rfl,hbn⟩;replace hfr:=Lib.hid (hfr.out.below hbn);replace ha:=Lib.hid (below_step ha.out hbn);clear hbn;obtain⟨f0,f1⟩:=hfr.out.c2))
 clear hf f0 f1
 replace ha:=Lib.hid (ha.out.trans (Below.refl _ _).drew)
 replace hfr:=Lib.hid (hfr.out.below (Below.refl _ _).drew)
 obtain⟨X,hX⟩:∃ X,w2.drew=X:=⟨_,rfl⟩
 rw[hX] at ha hfr
 replace hx:=Lib.hid (hx.out.below ha.out)
 replace ho:=Lib.hid (ho.out.below ha.out)
 have hbX:b<X.heap.size:=hx.out.lt
 have hsX:=ha.out.size
 refine wp_region_heldZ (S:=Sc [(b,4,.slice A n c),(w.heap.size,0,.int .i64 x),(w.heap.size,1,.int .i64 y)]) 13 (by kernel_rfl) (by rw[hX];exact (Sc.mk (by simp only[cs_iff_cons];exact⟨hx.out.c 4 _ rfl,hfr.out.c 0 _ rfl,hfr.out.c 1 _ rfl,cs_nil _⟩))) (fun hHeld=>?_)
 rw[hX] at hHeld ⊢
 clear hX
 refine tkZx 0 14 ?_
 refine tkZx 1 15 ?_
 refine tkZx 2 16 ?_
 refine tkZx 3 17 ?_
 refine tkZx 4 18 ?_
 refine tkZx 5 19 ?_
 refine tkZx 6 20 ?_
 refine tkZx 7 21 ?_
 refine tkZx 8 22 ?_
 refine ratZ 9 (by decide +kernel) rfl (fun K hK=>?_)
 rw[if_pos (by kernel_rfl)]
 go_simp
 refine hK.out _ _ (hHeld.below (below_alloc _ _)) (fun hH2=>?_)
 clear hK K hHeld
 have hHeld:=hH2
 clear hH2
 (try simp only[apS,apN,siA,scZ,scS])
 have hba:=below_alloc X (.cells #[.string s,.int .i64 x,.int .i64 y] 35)
 have hsrc:=rowsAt_new X [.string s,.int .i64 x,.int .i64 y] 35
 replace hx:=Lib.hid (hx.out.below hba)
 replace ho:=Lib.hid (ho.out.below hba)
 replace hfr:=Lib.hid (hfr.out.below hba)
 replace ha:=Lib.hid (ha.out.trans (hba.mono hsX))
 clear hba
 refine ratZ 10 (by decide +kernel) rfl (fun K hK=>?_)
 rw[if_pos (by kernel_rfl)]
 go_simp
 refine (Insert_end A _ n c (b+1) l ⟨s,x,y⟩ _ ho.out hsrc (by omega) (by simp;omega)).mono ?_
 rintro e9 w7 ⟨v',rfl,hown7,hg7⟩
 obtain⟨A5,c5,hv5,_⟩:=OwnL.form hown7
 obtain⟨q5,hq5⟩:∃ q5,q5=((l ++ [(⟨s,x,y⟩:Pa)]).map Pa.cells).length:=⟨_,rfl⟩
 rw[←hq5] at hv5
 clear hq5
 subst hv5
 have hrow:∀ k9,Value.ownBlock (.slice A n c)=some k9→b+1≤k9:=fun k9 e1=>(ho.out.lt k9 e1).1
 have hbel7:Below (b+1) w w7:=(ha.out.mono (by omega)).trans (grown_below hg7 hrow (by simp;omega))
 have hrow2:∀ k9,Value.ownBlock (.slice A n c)=some k9→k9<w.heap.size:=fun k9 e1=>hvb.out k9 e1
 have hx7:=hx.out.grown hg7 (fun e1=>by have:=hrow b e1.symm;omega)
 have hfr7:=hfr.out.grown hg7 (fun e1=>by have:=hrow2 _ e1.symm;omega)
 have hkeep:=Lib.hid (fun B cs t (hB:w.heap[B]?=some (.cells cs t (0,0))) (ht:t≠35)=>keep_other ho.out (Below.refl _ _) hg7 ((ha.out.block B (Array.getElem?_eq_some_iff.1 hB).1).trans hB) ht)
 refine hK.out _ _ (Sc.mk (by simp only[cs_iff_cons];exact⟨hx7.c 4 _ rfl,hfr7.c 0 _ rfl,hfr7.c 1 _ rfl,cs_nil _⟩)) (fun hH2=>?_)
 clear hK K hHeld hx ho hfr hfr7 ha hsrc hrow hrow2 hvb hg7
 have hHeld:=hH2
 clear hH2
 (try simp only[apS,apN,siA,scZ,scS])
 replace hbel7:=Lib.hid hbel7
 replace hown7:=Lib.hid hown7
 replace hx7:=Lib.hid hx7
 refine tkZx 11 25 ?_
 refine tkZx 12 26 ?_
 have y0:=hx7.out.c 4 _ rfl;have y1:=hx7.out.free 4 (by simp)
 refine ratZc 13 (by decide +kernel) rfl (by decide +kernel) (fun K hK=>?_)
 rw[if_pos (by kernel_rfl)]
 go_simp
 refine hK.out _ _ ?_
 clear hK K
 (try simp only[apS,apN,siA,scZ,scS])
 refine wpAnyHY_done (by decide +kernel) ?_ _
 clear y0 y1 hHeld
 have hx9:=Lib.hid (hx7.out.set 4 (.slice A5 q5 c5) (by simp))
 have hown9:=Lib.hid (hown7.out.offF (B':=b) 4 (.slice A5 q5 c5) (by omega))
 have hbel9:=Lib.hid ((hbel7.out.mono (Nat.le_succ b)).setCell (p:=⟨b,4,none⟩) (Nat.le_refl b) (.slice A5 q5 c5))
 clear hx7 hown7 hbel7
 go_wp2
 refine bodyPost_end (results_none rfl _ _ _) rfl ?_
 exact⟨rfl,_,_,_,hx9.out,hown9.out,hbel9.out,fun B cs t hB ht hne=>(Below.heap_setCell _ ⟨b,4,none⟩ _ B hne).trans (hkeep.out B cs t hB ht)⟩
end Go.Proofs.YtcnfhnndppollaaGreatDoor
namespace Go.Proofs.YtcnfhnndppollaaGreatDoor
open Go Go.RowKit
theorem del_h (g c:Nat) (hc:1≤c):∀ w',(Instr.slice 36 (.slice (some ⟨g,0,none⟩) 1 c) none (some (.int .i64 0)) none).run Tryz.prog w'=.ok (.slice (some ⟨g,0,none⟩) 0 c) w':=fun w'=>by
 have h:=run_slice_h w' 36 (some ⟨g,0,none⟩) 1 c undPa .i64 0 (by omega) (by omega)
 rw[sizePa] at h
 rw[h]
 simp[Result.andThen,sliced,addr_add]
theorem del_l (g c:Nat) (hc:1≤c):∃ a2 c2,∀ w',(Instr.slice 36 (.slice (some ⟨g,0,none⟩) 1 c) (some (.int .i64 1)) none none).run Tryz.prog w'=.ok (.slice (some a2) 0 c2) w':=by
 refine⟨if c=1 then ⟨g,0,none⟩ else Addr.add ⟨g,0,none⟩ (1*3),c-1,fun w'=>?_⟩
 have h:=run_slice_l w' 36 (some ⟨g,0,none⟩) 1 c undPa .i64 1 (by omega) (by omega)
 rw[sizePa] at h
 rw[h]
 by_cases h1:c=1 <;> simp[Result.andThen,sliced,h1]
theorem del_c (g c:Nat) (hc:1≤c):∀ w',(Instr.slice 36 (.slice (some ⟨g,0,none⟩) 0 c) (some (.int .i64 0)) (some (.int .i64 1)) none).run Tryz.prog w'=.ok (.slice (some ⟨g,0,none⟩) 1 c) w':=fun w'=>by
 have h:=run_slice_lh w' 36 (some ⟨g,0,none⟩) 0 c undPa .i64 .i64 0 1 (by omega) (by omega) (by omega)
 rw[sizePa] at h
 rw[h]
 simp[Result.andThen,sliced,addr_add]
theorem del_m (g c:Nat) (hc:1≤c):∃ v,∀ w',(Instr.slice 36 (.slice (some ⟨g,0,none⟩) 1 c) (some (.int .i64 0)) (some (.int .i64 1)) (some (.int .i64 1))).run Tryz.prog w'=.ok v w':=by
 refine⟨sliced (some ⟨g,0,none⟩) 0 1 1 3,fun w'=>?_⟩
 have h:=run_slice_any w' 36 (some ⟨g,0,none⟩) 1 c undPa (some (.int .i64 0)) (some (.int .i64 1)) (some (.int .i64 1))
 rw[show (Instr.sliceBounds true 1 c (some (.int .i64 0)) (some (.int .i64 1)) (some (.int .i64 1))).run Tryz.prog w'=.ok (0,1,1) w' by (have hc9:(1:Int)≤(c:Int):=by omega);simp[Instr.sliceBounds,run_sliceBound,hc9,Result.andThen]] at h
 simp only[Result.andThen] at h
 rw[sizePa] at h
 exact h
theorem del_clr (w:World) (ty:TypeId) (g c:Nat) (hc:∀ j,j<3→(w.cell? ⟨g,j,none⟩).isSome=true) (hf:∀ j,j<3→w.frozen? ⟨g,j,none⟩=false) :
  (Builtin.clear_ #[36] ty #[.slice (some ⟨g,0,none⟩) 1 c]).run Tryz.prog w=.ok (.tuple #[]) (w.setCells g 0 [.string ⟨#[]⟩,.int .i64 0,.int .i64 0]):=by
 have hv:∀ w,(zeroValue (Tryz.prog.elem 36)).run Tryz.prog w=.ok (.agg #[.string ⟨#[]⟩,.int .i64 0,.int .i64 0]) w:=fun w=>by kernel_rfl
 have hst:=run_storeCells_cells (P:=Tryz.prog) g 0 [.string ⟨#[]⟩,.int .i64 0,.int .i64 0] 0 w (by simpa using hc) (by simpa using hf) (by intro v hv';simp at hv';rcases hv' with rfl | rfl | rfl <;> rfl)
 have hzc:(Builtin.zeroCells (Value.agg #[.string ⟨#[]⟩,.int .i64 0,.int .i64 0]).cells 1).toList=[.string ⟨#[]⟩,.int .i64 0,.int .i64 0]:=by
  rw[show (Value.agg #[.string ⟨#[]⟩,.int .i64 0,.int .i64 0]).cells=#[.string ⟨#[]⟩,.int .i64 0,.int .i64 0] from rfl]
  simp[Builtin.zeroCells,Array.range,List.range,List.range.loop]
 simp only[Nat.add_zero] at hst
 simp only[Builtin.clear_]
 simp[run_underlying undPa,hv,hzc,hst]
theorem heap_setCells (g:Nat) (E:TypeId):∀ (vs:List Value) (o:Nat) (X:World) (cur:Array Value),X.heap[g]?=some (.cells cur E (0,0))→∃ cur',(X.setCells g o vs).heap[g]?=some (.cells cur' E (0,0))∧cur'.size=cur.size
 | [],o,X,cur,h=>⟨cur,h,rfl⟩
 | v :: r,o,X,cur,h=>by
  have h1:(X.setCell ⟨g,o,none⟩ v).heap[g]?=some (.cells (cur.setIfInBounds o v) E (0,0)):=by simp[World.setCell,Array.getElem?_modify,h]
  obtain⟨cur',h2,h3⟩:=heap_setCells g E r (o+1) _ _ h1
  exact⟨cur',h2,by rw[h3];simp⟩
def DelP (w:World) (B:Nat) (v:Value) (e:Ending) (w':World):Prop:=∃ v',e=.returned v'∧OwnL w' B 35 3 v' []∧w.grownBy w' v.ownBlock
theorem own_one {w:World} {B c:Nat} {A:Option Addr} {x:Pa} (h:OwnL w B 35 3 (.slice A 1 c) ([x].map Pa.cells)):∃ g cur,A=some ⟨g,0,none⟩∧B≤g∧w.heap[g]?=some (.cells cur 35 (0,0))∧1≤c∧c≤maxLen∧cur.size=c*3:=by
 rcases h.own.2 with ⟨h1,h2⟩ | ⟨g,cap,cur,hv,hb,hg,h2,h3,h4,h5⟩
 ·cases h1
 simp only[Value.slice.injEq] at hv
 obtain⟨rfl,_,rfl⟩:=hv
 exact⟨g,cur,rfl,hb,hg,h2,h3,h4⟩
theorem Delete_one (A:Option Addr) (c B:Nat) (x:Pa) (w:World) (h:OwnL w B 35 3 (.slice A 1 c) ([x].map Pa.cells)) :
  Calls Tryz.prog 73 #[.slice A 1 c,.int .i64 0,.int .i64 1] w (DelP w B (.slice A 1 c)):=by
 obtain⟨g,cur,hA,hBg,hg,hc1,hcm,hsz⟩:=own_one h
 subst hA
 have hgl:=(Array.getElem?_eq_some_iff.1 hg).1
 have e1:=del_h g c hc1
 obtain⟨A2,c2,e2⟩:=del_l g c hc1
 have e3:=del_c g c hc1
 obtain⟨v4,e4⟩:=del_m g c hc1
 have e5:=fun W=>show (loadCells A2 0).run Tryz.prog W=.ok #[] W from rfl
 have e7:=fun a W=>show (storeCells a []).run Tryz.prog W=.ok () W from rfl
 replace hg:=Lib.hid hg
 replace h:=Lib.hid h
 replace hsz:=Lib.hid hsz
 replace hcm:=Lib.hid hcm
 go_enter Tryz.func73,Tryz.ntmps73
 go_upto_region 5 with fail
 refine wp_region_held_drew (S:=Sx w []) (by kernel_rfl) (Sx.mk (cs_nil _) (Below.refl _ _).drew) (fun hHeld=>?_)
 refine tkHx 0 20 ?_
 refine tkHx 1 21 ?_
 refine tkHx 2 22 ?_
 refine tkHx 3 23 ?_
 refine tkHx 4 24 ?_
 refine tkHx 5 25 ?_
 refine tkHx 6 26 ?_
 refine tkHx 7 0 ?_
 refine wpAnyH_done (by kernel_rfl) ?_ _
 have hgd:w.drew.heap[g]?=some (.cells cur 35 (0,0)):=hg.out
 obtain⟨X,hX⟩:∃ X,w.drew=X:=⟨_,rfl⟩
 have hbX:w.grownBy X (some g):=by rw[←hX];exact below_grown (Below.refl _ _).drew _
 rw[hX] at hgd ⊢
 clear hX
 have e6:=fun ty=>del_clr X ty g c (fun j hj=>by have:=hsz.out;simp[World.cell?,hgd];omega) (fun j hj=>by simp[World.frozen?,hgd])
 replace hgd:=Lib.hid hgd
 replace hbX:=Lib.hid hbX
 clear hHeld
 go_wp2
 go_ret
 obtain⟨cur',q1,q2⟩:=heap_setCells g 35 [.string ⟨#[]⟩,.int .i64 0,.int .i64 0] 0 X cur hgd.out
 refine⟨_,rfl,⟨⟨rfl,.inr ⟨g,c,cur',rfl,hBg,q1,by simp,hcm.out,by rw[q2,hsz.out],by simp⟩⟩,fun r hr=>(by simp at hr),fun r hr=>(by simp at hr)⟩,?_⟩
 exact hbX.out.trans (grown_setCells g _ 0 X)
theorem set_del (b c:Nat) (pl:ByteArray) (cl fr en x y z:Int) (A:Option Addr) (D:Value) (w:World) (hx:BoxAt w b [.string pl,.int .i64 cl,.int .i64 fr,.int .i64 en,.slice A 1 c,D]) (ho:OwnL w (b+1) 35 3 (.slice A 1 c) ([(⟨⟨#[97,110,110]⟩,x,y⟩:Pa)].map Pa.cells)) :
  Calls Tryz.prog 55 #[.pointer (some ⟨b,0,none⟩),.string ⟨#[97,110,110]⟩,.agg #[.int .i64 0,.int .i64 z]] w (SetP w b pl cl fr en D []):=by
 have hr:RowsAt w A 3 ([(⟨⟨#[97,110,110]⟩,x,y⟩:Pa)].map Pa.cells):=by
  obtain⟨A0,c0,hv,hr⟩:=ho.form
  cases hv
  exact hr
 have hf:=Lib.hid (fun W (hb:Below w.heap.size w W)=>find_of b 1 c pl ⟨#[97,110,110]⟩ cl fr en 0 true A D W (hx.below hb) (Search_hit A c x y W (hr.below hb)))
 have ha:=Lib.hid (below_alloc w (.cells #[.int .i64 0,.int .i64 z] 33))
 have hfr:=Lib.hid (BoxAt.new w #[.int .i64 0,.int .i64 z] 33)
 have hvb:=Lib.hid (fun g (e1:Value.ownBlock (.slice A 1 c)=some g)=>ho.lt g e1)
 replace hx:=Lib.hid hx
 replace ho:=Lib.hid ho
 have hb0:b<w.heap.size:=hx.out.lt
 clear hr
 go_enter Tryz.func55,Tryz.ntmps55
 go_wp2_with (first
  |(go_at_call 72;refine (hf.out _ ha.out).mono ?_;rintro e9 w2 ⟨rfl,hbn⟩;replace hfr:=Lib.hid (hfr.out.below hbn);replace ha:=Lib.hid (below_step ha.out hbn);clear hbn;obtain⟨f0,f1⟩:=hfr.out.c2;replace hx:=Lib.hid (hx.out.below ha.out);replace ho:=Lib.hid (ho.out.below ha.out);have x4:=hx.out.c 4 _ rfl;have hsz2:=ha.out.size)
  |(go_at_call 73;clear f0 f1 x4;refine (Delete_one A c (b+1) _ _ ho.out).mono ?_;rintro e9 w3 ⟨v3,rfl,hown3,hg3⟩;(have hx3:=hx.out.grown hg3 (fun e1=>by have:=(hvb.out b e1.symm).1;omega));(have hbel3:Below (b+1) w w3:=(ha.out.mono (by omega)).trans (grown_below hg3 (fun g e1=>(hvb.out g e1).1) (by omega)));obtain⟨A5,c5,hv5,_⟩:=OwnL.form hown3;subst hv5;have y0:=hx3.c 4 _ rfl;have y1:=hx3.free 4 (by simp);replace hx3:=Lib.hid hx3;replace hown3:=Lib.hid hown3;replace hbel3:=Lib.hid hbel3;have hkeep:=Lib.hid (fun B cs t (hB:w.heap[B]?=some (.cells cs t (0,0))) (ht:t≠35)=>keep_other ho.out (Below.refl _ _) hg3 ((ha.out.block B (Array.getElem?_eq_some_iff.1 hB).1).trans hB) ht);clear hg3))
 clear y0 y1
 refine bodyPost_end (results_none rfl _ _ _) rfl ?_
 exact⟨rfl,_,_,_,hx3.out.set 4 _ (by simp),hown3.out.offF (B':=b) 4 _ (by omega),(hbel3.out.mono (Nat.le_succ b)).setCell (p:=⟨b,4,none⟩) (Nat.le_refl b) _,fun B cs t hB ht hne=>(Below.heap_setCell _ ⟨b,4,none⟩ _ B hne).trans (hkeep.out B cs t hB ht)⟩
end Go.Proofs.YtcnfhnndppollaaGreatDoor
namespace Go.Proofs.YtcnfhnndppollaaGreatDoor
open Go Go.RowKit Go.Maps Go.WideMaps
theorem MapIs.empty {κ:Type} (P:Program) (k:TypeId) (lit:κ→Lit) {w:World} {b:Nat} (h:w.heap[b]?=some (.map #[] 0)):MapIs P k lit w b 0 (fun _=>none):=by
 obtain⟨D,⟨es,clock,h1,h2⟩,hf⟩:=MapIs.made P k lit w
 rw[World.alloc_heap_new] at h1
 simp only[Option.some.injEq,Obj.map.injEq] at h1
 obtain⟨rfl,rfl⟩:=h1
 exact⟨D,⟨_,_,h,h2⟩,hf⟩
structure Wd (W:World) (q k:Nat) (fd fk fp:List UInt8→Option Value) (M T:Value) (la ct:Int):Prop where
 box:BoxAt W (q+6) [.map (some (q+1)),.map (some (q+1+1)),.map (some (q+1+1+1)),M,.map (some (q+1+1+1+1)),.map (some (q+1+1+1+1+1)),T,.int .i64 la,.int .i64 ct]
 pd:∃ n,n≤k∧MapIs Tryz.prog 9 strLit W (q+1) n fd
 pk:∃ n,n≤k∧MapIs Tryz.prog 9 strLit W (q+1+1) n fk
 pp:∃ n,n≤k∧MapIs Tryz.prog 9 strLit W (q+1+1+1) n fp
 pl:W.heap[q+1+1+1+1]?=some (.map #[] 0)
 pr:W.heap[q+1+1+1+1+1]?=some (.map #[] 0)
theorem Wd.lt {W:World} {q k:Nat} {fd fk fp:List UInt8→Option Value} {M T:Value} {la ct:Int} (h:Wd W q k fd fk fp M T la ct):q+6<W.heap.size:=h.box.lt
theorem Wd.below {W W':World} {q k:Nat} {fd fk fp:List UInt8→Option Value} {M T:Value} {la ct:Int} (h:Wd W q k fd fk fp M T la ct) (hb:Below W.heap.size W W'):Wd W' q k fd fk fp M T la ct:=by
 have hl:=h.lt
 obtain⟨n1,e1,m1⟩:=h.pd
 obtain⟨n2,e2,m2⟩:=h.pk
 obtain⟨n3,e3,m3⟩:=h.pp
 exact⟨h.box.below hb,⟨n1,e1,m1.below hb (by omega)⟩,⟨n2,e2,m2.below hb (by omega)⟩,⟨n3,e3,m3.below hb (by omega)⟩,(hb.block _ (by omega)).trans h.pl,(hb.block _ (by omega)).trans h.pr⟩
theorem Wd.grown {W W':World} {q k:Nat} {fd fk fp:List UInt8→Option Value} {M T:Value} {la ct:Int} {row:Option Nat} (h:Wd W q k fd fk fp M T la ct) (hg:W.grownBy W' row) (hr:∀ g,row=some g→q+7≤g):Wd W' q k fd fk fp M T la ct:=by
 have hl:=h.lt
 have hne:∀ b,b<q+7→some b≠row:=fun b hb e=>by have:=hr b e.symm;omega
 obtain⟨n1,e1,m1⟩:=h.pd
 obtain⟨n2,e2,m2⟩:=h.pk
 obtain⟨n3,e3,m3⟩:=h.pp
 exact⟨h.box.grown hg (hne _ (by omega)),⟨n1,e1,m1.kept hg (hne _ (by omega))⟩,⟨n2,e2,m2.kept hg (hne _ (by omega))⟩,⟨n3,e3,m3.kept hg (hne _ (by omega))⟩,(hg.block _ (by omega) (hne _ (by omega))).trans h.pl,(hg.block _ (by omega) (hne _ (by omega))).trans h.pr⟩
theorem strsZero (w:World):(zeroValue 64).run Tryz.prog w=.ok (.slice none 0 0) w:=by kernel_rfl
theorem boolZeroU (w:World):(zeroValue 4).run Tryz.prog w=.ok (.bool false) w:=by kernel_rfl
theorem Wd.kid {W:World} {q k:Nat} {fd fk fp:List UInt8→Option Value} {M T:Value} {la ct:Int} (h:Wd W q k fd fk fp M T la ct) (s:ByteArray) (hs:s.size≤maxLen) :
  (Instr.lookup 73 (.map (some (q+1+1))) (.string s) false).run Tryz.prog W=.ok ((fk s.data.toList).getD (.slice none 0 0)) W:=by
 obtain⟨n2,e2,m2⟩:=h.pk
 exact m2.look (string_keyed Tryz.underlying9) Tryz.underlying73 (strsZero _) (keyOf_string_mk Tryz.underlying9 hs)
theorem Wd.par {W:World} {q k:Nat} {fd fk fp:List UInt8→Option Value} {M T:Value} {la ct:Int} (h:Wd W q k fd fk fp M T la ct) (s:ByteArray) (hs:s.size≤maxLen) :
  (Instr.lookup 73 (.map (some (q+1+1+1))) (.string s) false).run Tryz.prog W=.ok ((fp s.data.toList).getD (.slice none 0 0)) W:=by
 obtain⟨n2,e2,m2⟩:=h.pp
 exact m2.look (string_keyed Tryz.underlying9) Tryz.underlying73 (strsZero _) (keyOf_string_mk Tryz.underlying9 hs)
theorem Wd.dead {W:World} {q k:Nat} {fd fk fp:List UInt8→Option Value} {M T:Value} {la ct:Int} (h:Wd W q k fd fk fp M T la ct) (s:ByteArray) (hs:s.size≤maxLen) :
  (Instr.lookup 72 (.map (some (q+1))) (.string s) false).run Tryz.prog W=.ok ((fd s.data.toList).getD (.bool false)) W:=by
 obtain⟨n2,e2,m2⟩:=h.pd
 exact m2.look (string_keyed Tryz.underlying9) Tryz.underlying72 (boolZeroU _) (keyOf_string_mk Tryz.underlying9 hs)
theorem desc_none {q k:Nat} {fd fk fp:List UInt8→Option Value} {M T:Value} {la ct:Int} (s:ByteArray) (hs:s.size≤maxLen) (w:World) (h:Wd w q k fd fk fp M T la ct) (hk:fk s.data.toList=none) :
  Calls Tryz.prog 85 #[.pointer (some ⟨q+6,0,none⟩),.string s] w fun e w'=>e=.returned (.map (some w.heap.size))∧Below w.heap.size w w'∧w'.heap[w.heap.size]?=some (.map #[] 0):=by
 have hmm:=@run_makeMap Tryz.prog
 have ha:=below_alloc w (.map #[] 0)
 have hb:=below_alloc (w.alloc (.map #[] 0)) (.cells #[.string s] 9)
 have hw2:=(h.below ha).below hb
 have e1:=hw2.kid s hs
 rw[hk] at e1
 have e2:=hw2.box.c 1 _ rfl
 have e3:((w.alloc (.map #[] 0)).alloc (.cells #[.string s] 9)).cell? ⟨w.heap.size+1,0,none⟩=some (.string s):=by
  have:=(BoxAt.new (w.alloc (.map #[] 0)) #[.string s] 9).c 0 _ rfl
  rw[World.size_alloc] at this
  exact this
 have hd:=Lib.hid (below_step ha hb)
 have hm:=Lib.hid (heap_old (w.alloc (.map #[] 0)) (.cells #[.string s] 9) _ _ (heap_push w (.map #[] 0) w.heap.size rfl))
 clear h hw2 ha hb hk
 go_enter Tryz.func85,Tryz.ntmps85
 go_wp2
 refine wp_unroll 2 ?_
 unfold unroll
 go_wp2
 refine wp_unroll 1 ?_
 unfold unroll
 go_wp2
 unfold unroll
 go_wp2
 go_ret
 exact⟨rfl,hd.out,hm.out⟩
end Go.Proofs.YtcnfhnndppollaaGreatDoor
namespace Go.Proofs.YtcnfhnndppollaaGreatDoor
open Go Go.RowKit Go.Maps Go.WideMaps Go.ChangeMaps
variable {P : Program} {k : TypeId} {w : World} {b n : Nat} {κ : Type} {lit : κ → Lit} {f : κ → Option Value}
theorem setBlock_twice (w:World) (b:Nat) (x y:Obj):setBlock (setBlock w b x) b y=setBlock w b y:=by
 simp only[setBlock]
 congr 1
 apply Array.ext_getElem?
 intro i
 simp only[Array.getElem?_setIfInBounds,Array.size_setIfInBounds]
 split <;> simp_all
theorem findIdx_push (es:Array MapEntry) (clock:Nat) (x:MapEntry) (hx:x.born=clock) (h:∀ e∈es.toList,e.born<clock):(es.push x).findIdx? (fun e=>(e.born:Int) == (clock:Int))=some es.size:=by
 rw[Array.findIdx?_eq_some_iff_getElem]
 refine⟨by simp,by simp[hx],fun j hj=>?_⟩
 have h1:j<es.size:=hj
 have:=h es[j] (by simp)
 simp[Array.getElem_push,h1]
 omega
theorem findIdx_at (es:Array MapEntry) (j:Nat) (e:MapEntry) (hj:es[j]?=some e) (h:(es.toList.map (·.born)).Nodup):es.findIdx? (fun x=>(x.born:Int) == (e.born:Int))=some j:=by
 obtain⟨hlt,he⟩:=Array.getElem?_eq_some_iff.1 hj
 rw[Array.findIdx?_eq_some_iff_getElem]
 refine⟨hlt,by simp[he],fun i hi=>?_⟩
 have hne:es[i].born≠es[j].born:=fun e1=>by
  have h2:=(List.pairwise_iff_getElem.1 h) i j (by simp;omega) (by simpa using hlt) hi
  simp at h2
  exact h2 e1
 rw[he] at hne
 simp
 omega
theorem push_modify (es:Array MapEntry) (x:MapEntry) (g:MapEntry→MapEntry):(es.push x).modify es.size g=es.push (g x):=by
 apply Array.ext
 ·simp
 intro i h1 h2
 simp only[Array.getElem_modify,Array.getElem_push]
 split <;> split <;> simp_all <;> omega
theorem run_entryStore {es:Array MapEntry} {clock j born:Nat} {val:Value} {t:TypeId} (hb:w.heap[b]?=some (.map es clock)) (hf:es.findIdx? (fun e=>(e.born:Int) == (born:Int))=some j) :
  (Instr.entryStore t (.map (some b)) (.int .i64 born) val).run P w=.ok () (setBlock w b (.map (es.modify j fun e=>{ e with val:=val }) clock)):=by
 simp[Instr.entryStore,MapKept.run_getObj_map hb,asInt,asIntOf,Result.andThen]
 rw[hf]
 simp[MapKept.run_setObj_map _ hb,setBlock]
theorem MapIs.entry [DecidableEq κ] (hinj:∀ x y,lit x=lit y→x=y) {t e:TypeId} (h:MapIs P k lit w b n f) (K:Keyed P k) (ht:P.underlying t=some (.map k e)) (hn:n<maxLen) {z:Value} (hz:(zeroValue e).run P w=.ok z w) {key val:Value} {kl:κ} (hkey:keyOf P k key=some (lit kl)) :
  ∃ v st w1,(Instr.mapEntry t (.map (some b)) key).run P w=.ok (.tuple #[v,.int .i64 st]) w1∧w.grownBy w1 (some b)∧w1.heap.size=w.heap.size ∧
   ∃ w2,(Instr.entryStore t (.map (some b)) (.int .i64 st) val).run P w1=.ok () w2∧MapIs P k lit w2 b (n+1) (setAt f kl val)∧w1.grownBy w2 (some b)∧w2.heap.size=w1.heap.size:=by
 obtain⟨w',hrun,hm',hg',hsz'⟩:=h.store hinj K ht hn (val:=val) hkey
 obtain⟨D,⟨es,clock,hb,F,hs,_⟩,_⟩:=h
 have hlt:=(Array.getElem?_eq_some_iff.1 hb).1
 have gr:∀ (W:World) (x y:Obj),W.heap[b]?=some x→W.grownBy (setBlock W b y) (some b):=fun W x y hx =>
  ⟨rfl,rfl,rfl,by simp[setBlock],fun k9 _ hk9=>by
   have hne:k9≠b:=fun e1=>hk9 (by rw[e1])
   simp[setBlock,Array.getElem?_setIfInBounds,Ne.symm hne]⟩
 rcases K.find w hkey es.toList F.keys with ⟨h1,h2⟩ | ⟨j,e0,h1,h2,h3⟩
 ·simp[Instr.mapUpdate,run_underlying ht,MapKept.run_getObj_map hb,K.check w false hkey,h1,MapKept.run_setObj_map _ hb,Result.andThen] at hrun
  have hb1:(setBlock w b (.map (es.push ⟨key,z,clock⟩) (clock+1))).heap[b]?=some (.map (es.push ⟨key,z,clock⟩) (clock+1)):=by simp[setBlock,hlt]
  refine⟨z,clock,setBlock w b (.map (es.push ⟨key,z,clock⟩) (clock+1)),?_,gr _ _ _ hb,by simp[setBlock],setBlock w b (.map (es.push ⟨key,val,clock⟩) (clock+1)),?_,?_,?_,by simp[setBlock]⟩
  ·simp[Instr.mapEntry,run_underlying ht,MapKept.run_getObj_map hb,K.check w false hkey,h1,hz,MapKept.run_setObj_map _ hb,Result.andThen,setBlock,goInt]
  ·have hf:=findIdx_push es clock ⟨key,z,clock⟩ rfl F.stamped.1
   have hq:=run_entryStore (P:=P) (t:=t) (val:=val) hb1 hf
   rw[push_modify,setBlock_twice] at hq
   exact hq
  ·rw[hrun.symm] at hm'
   exact hm'
  have:=gr _ _ (.map (es.push ⟨key,val,clock⟩) (clock+1)) hb1
  rw[setBlock_twice] at this
  exact this
 obtain⟨hjl,hje⟩:=Array.getElem?_eq_some_iff.1 (show es[j]?=some e0 by simpa using h2)
 have hj:es[j]?=some e0:=by simpa using h2
 have hst:(Instr.keyThatStays e0.key key).run P w=.ok key w:=by rw[h3];exact K.stays w hkey
 simp[Instr.mapUpdate,run_underlying ht,MapKept.run_getObj_map hb,K.check w false hkey,h1,hj,hst,MapKept.run_setObj_map _ hb,Result.andThen] at hrun
 obtain⟨es1,he1⟩:∃ es1,es1=es.modify j fun e=>{ e with key:=key }:=⟨_,rfl⟩
 have hb1:(setBlock w b (.map es1 clock)).heap[b]?=some (.map es1 clock):=by simp[setBlock,hlt]
 have hj1:es1[j]?=some { e0 with key:=key }:=by rw[he1];simp[Array.getElem?_modify,hj]
 have hnd:(es1.toList.map (·.born)).Nodup:=by
  have hs1:MapKept.Stamped es1 clock:=by
   rw[he1]
   exact MapKept.stamped_modify F.stamped _ _ (fun _ _=>rfl) (fun e' _ he'=>by rw[hj] at he';cases he';exact h3.symm)
  exact ((MapKept.stamped_iff es1 clock).1 hs1).2.1
 have hf:=findIdx_at es1 j _ hj1 hnd
 have hq:=run_entryStore (P:=P) (t:=t) (val:=val) hb1 hf
 rw[setBlock_twice] at hq
 refine⟨e0.val,e0.born,setBlock w b (.map es1 clock),?_,gr _ _ _ hb,by simp[setBlock],_,hq,?_,?_,by simp[setBlock]⟩
 ·simp[Instr.mapEntry,run_underlying ht,MapKept.run_getObj_map hb,K.check w false hkey,h1,hj,hst,MapKept.run_setObj_map _ hb,Result.andThen,setBlock,goInt,he1]
 ·have e9:(es1.modify j fun e=>{ e with val:=val })=es.modify j fun e=>{ e with key:=key,val:=val }:=by
   rw[he1]
   apply Array.ext
   ·simp
   intro i q1 q2
   simp only[Array.getElem_modify]
   split <;> rfl
  rw[e9]
  rw[hrun.symm] at hm'
  exact hm'
 have:=gr _ _ (.map (es1.modify j fun e=>{ e with val:=val }) clock) hb1
 rw[setBlock_twice] at this
 exact this
end Go.Proofs.YtcnfhnndppollaaGreatDoor
namespace Go.Proofs.YtcnfhnndppollaaGreatDoor
open Go Go.RowKit
section
variable {P : Program} {ops : Array Oper} {Q : Exit → Act → World → Prop} {md : Region.Mode} {S A B : World → Prop} {y z : Nat}
def heldP (S A B:World→Prop) (y z:Nat) (listed:Array Bool) (w:World):Prop:=S w∧(listed.getD y true=false→A w)∧(listed.getD z true=false→B w)
theorem heldP_set {i:Nat} {listed:Array Bool} {w:World} (hy:i≠y) (hz:i≠z):heldP S A B y z (listed.setIfInBounds i true) w↔heldP S A B y z listed w:=by
 unfold heldP
 rw[getD_set_ne true hy,getD_set_ne true hz]
def wpAnyHP (P:Program) (md:Region.Mode) (ops:Array Oper) (Q:Exit→Act→World→Prop) (S A B:World→Prop) (y z:Nat):Nat→Array Bool→Act→World→Prop
 | 0,listed,a,w=>Region.ready md ops listed=[]∧Q .normal a w
 | fuel+1,listed,a,w =>
  (Region.ready md ops listed=[]→Q .normal a w) ∧
  ∀ i∈Region.ready md ops listed,wpOp P ops Q i (fun a' w'=>heldP S A B y z (listed.setIfInBounds i true) w'∧wpAnyHP P md ops Q S A B y z fuel (listed.setIfInBounds i true) a' w') a w
theorem wpAny_of_heldP:∀ (fuel:Nat) (listed:Array Bool) (a:Act) (w:World),wpAnyHP P md ops Q S A B y z fuel listed a w→wpAny P md ops Q fuel listed a w
 | 0,_,_,_,h=>h
 | fuel+1,_,_,_,h=>⟨h.1,fun i hi=>wpOp_mono (fun a' w' h'=>wpAny_of_heldP fuel _ a' w' h'.2) (h.2 i hi)⟩
theorem wpAnyHP_first {i:Nat} {oi:Oper} {v:Value} {C:List Nat} (hi:ops[i]?=some oi) (hsel:∀ (j:Nat) (o:Oper) cs b,ops[j]?=some o→o.op≠.select cs b)
  (hQ:∀ c a w,Q (.panic c) (a.put oi.dst v) w→Q (.panic c) a w) (hC:chained ops md i C=true) (hiy:i≠y) (hiz:i≠z) :
  ∀ (fuel:Nat) (listed:Array Bool) (a:Act) (w:World),(∀ k∈C,listed.getD k true=false) →
   (∀ j oj,ops[j]?=some oj→j≠i→listed.getD j true=false→(∀ e∈oj.after,Region.binds md e=true→e.on≠i)→oi.apart ops oj=true) →
   i∈Region.ready md ops listed→YieldsIf P ops (fun w=>S w∧(y∈C→A w)∧(z∈C→B w)) oi v a→heldP S A B y z listed w →
   wpAnyHP P md ops Q S A B y z fuel (listed.setIfInBounds i true) (a.put oi.dst v) w→wpAnyHP P md ops Q S A B y z (fuel+1) listed a w:=by
 intro fuel
 induction fuel with
 | zero =>
  intro listed a w hU _ hr hy hS H
  refine⟨fun h=>(by rw[h] at hr;cases hr),fun j hj=>?_⟩
  by_cases hji:j=i
  ·subst hji;exact hy.wpOp hi ⟨hS.1,fun h=>hS.2.1 (hU y h),fun h=>hS.2.2 (hU z h)⟩ ⟨(heldP_set hiy hiz).2 hS,H⟩
  have:=ready_mono hj hji
  rw[H.1] at this
  cases this
 | succ fuel ih =>
  intro listed a w hU hfree hr hy hS H
  refine⟨fun h=>(by rw[h] at hr;cases hr),fun j hj=>?_⟩
  by_cases hji:j=i
  ·subst hji;exact hy.wpOp hi ⟨hS.1,fun h=>hS.2.1 (hU y h),fun h=>hS.2.2 (hU z h)⟩ ⟨(heldP_set hiy hiz).2 hS,H⟩
  have h1:=H.2 j (ready_mono hj hji)
  have hjC:=not_ready_of_chained hC hU hj hji
  obtain⟨hjun,oj,hoj,hall⟩:=mem_ready.1 hj
  have hnot:∀ e∈oj.after,Region.binds md e=true→e.on≠i:=fun e he hb heq=>by
   have h1:=hall e he hb
   have h0:=(mem_ready.1 hr).1
   rw[heq] at h1
   rcases Nat.lt_or_ge i listed.size with h' | h'
   ·simp[h'] at h0 h1;rw[h0] at h1;cases h1
   simp[Array.getElem?_eq_none h'] at h1
  have h2:=wpOp_putIf hoj (hfree j oj hoj hji hjun hnot) (fun cs b=>hsel i oi cs b hi) (fun cs b=>hsel j oj cs b hoj) hQ hy h1
  have hfree':∀ k ok,ops[k]?=some ok→k≠i→(listed.setIfInBounds j true).getD k true=false →
    (∀ e∈ok.after,Region.binds md e=true→e.on≠i)→oi.apart ops ok=true:=fun k ok hk hki hun hno=>by
   refine hfree k ok hk hki ?_ hno
   by_cases hjk:j=k
   ·subst hjk;exact hjun
   rw[getD_set_ne true hjk] at hun;exact hun
  have hU':∀ k∈C,(listed.setIfInBounds j true).getD k true=false:=fun k hk=>by
   have hjk:j≠k:=fun e=>hjC (e ▸ hk)
   rw[getD_set_ne true hjk];exact hU k hk
  have hback:∀ w',heldP S A B y z ((listed.setIfInBounds i true).setIfInBounds j true) w'→heldP S A B y z (listed.setIfInBounds j true) w':=fun w' h=>by
   rw[Array.setIfInBounds_comm _ _ (Ne.symm hji)] at h
   exact (heldP_set hiy hiz).1 h
  refine wpOp_mono (fun a' w' h3=>⟨hback w' h3.2.1,ih (listed.setIfInBounds j true) a' w' hU' hfree' (ready_mono hr (Ne.symm hji)) h3.1 (hback w' h3.2.1) ?_⟩) h2
  rw[Array.setIfInBounds_comm _ _ hji]
  exact h3.2.2
theorem wp_region_heldP {id:Nat} {a:Act} {w:World} (y z:Nat) (hm:P.follows .mixedOrders=true) (hS:S w.drew) (hA:A w.drew) (hB:B w.drew)
  (h:heldP S A B y z (Array.replicate ops.size false) w.drew→wpAnyHP P .any ops Q S A B y z ops.size (Array.replicate ops.size false) a w.drew):(Code.region id ops true).wp P Q a w :=
 wp_region_any hm (wpAny_of_heldP _ _ _ _ (h ⟨hS,fun _=>hA,fun _=>hB⟩))
theorem wpAnyHP_done {listed:Array Bool} {a:Act} {w:World} (hr:Region.ready md ops listed=[]) (h:Q .normal a w):∀ fuel,wpAnyHP P md ops Q S A B y z fuel listed a w
 | 0=>⟨hr,h⟩
 | _+1=>⟨fun _=>h,by rw[hr];simp⟩
theorem tkPx (i d:Nat) {oi:Oper} {v:Value} {fuel:Nat} {listed l':Array Bool} {a a':Act} {w:World}
  (h:heldP S A B y z l' w→wpAnyHP P md ops Q S A B y z fuel l' a' w) (hS:heldP S A B y z listed w) (hi:ops[i]?=some oi:=by exact rfl)
  (hy:∀ w,S w→((waiters ops md i).contains y=true→A w)→((waiters ops md i).contains z=true→B w)→(execOp a.eval oi).run P w=.ok (.value v) w:=by (intro w' hSw hAw hBw;replace hSw:=hSw.cs;(try simp only[cs_iff_cons] at hSw);(first | replace hAw:=hAw (by decide +kernel) | clear hAw);(first | replace hBw:=hBw (by decide +kernel) | clear hBw);go_simp;(try with_reducible rfl)))
  (ha:a.put (some d) v=a':=by ((try simp only[Act.put,List.setIfInBounds_toArray,List.set_cons_zero,List.set_cons_succ]);exact rfl))
  (hl:listed.setIfInBounds i true=l':=by ((try simp only[List.setIfInBounds_toArray,List.set_cons_zero,List.set_cons_succ]);exact rfl))
  (hdd:oi.dst=some d:=by kernel_rfl) (hs:Region.noSelect ops=true:=by kernel_rfl) (hf:Region.free md ops listed i=true:=by decide +kernel) (hr:(Region.ready md ops listed).contains i=true:=by decide +kernel)
  (hC:chained ops md i (waiters ops md i)=true:=by kernel_rfl) (hiy:(i == y)=false:=by kernel_rfl) (hiz:(i == z)=false:=by kernel_rfl) (hU:unlistedB listed (waiters ops md i)=true:=by kernel_rfl)
  (hQ:∀ c a w,Q (.panic c) (a.put oi.dst v) w→Q (.panic c) a w:=by exact fun _ _ _ h=>h) (hw:Region.wanted oi (yielded ops a.tmps)=true:=by kernel_rfl):wpAnyHP P md ops Q S A B y z (fuel+1) listed a w :=
 wpAnyHP_first hi (Region.noSelect_spec hs) hQ hC (by simpa using hiy) (by simpa using hiz) fuel listed a w (unlisted_spec hU) (Region.free_spec hi hf) (by simpa using hr)
  (Or.inl ⟨hw,fun w h=>hy w h.1 (fun h'=>h.2.1 (by simpa using h')) (fun h'=>h.2.2 (by simpa using h'))⟩) hS (by rw[hdd,ha,hl];exact h (hl ▸ (heldP_set (by simpa using hiy) (by simpa using hiz)).2 hS))
def AllReadyP (P:Program) (md:Region.Mode) (ops:Array Oper) (Q:Exit→Act→World→Prop) (S A B:World→Prop) (y z:Nat) (fuel:Nat) (listed:Array Bool) (a:Act) (w:World) (rs:List Nat):Prop :=
 ∀ i∈rs,wpOp P ops Q i (fun a' w'=>heldP S A B y z (listed.setIfInBounds i true) w'∧wpAnyHP P md ops Q S A B y z fuel (listed.setIfInBounds i true) a' w') a w
theorem AllReadyP.nil {fuel:Nat} {listed:Array Bool} {a:Act} {w:World}:AllReadyP P md ops Q S A B y z fuel listed a w []:=fun _ h=>by cases h
theorem AllReadyP.cons {fuel:Nat} {listed:Array Bool} {a:Act} {w:World} {i:Nat} {o:Oper} {rs:List Nat} (ho:ops[i]?=some o)
  (h:∀ K':Act→World→Prop,Shut (∀ a w,heldP S A B y z (listed.setIfInBounds i true) w→(heldP S A B y z (listed.setIfInBounds i true) w→wpAnyHP P md ops Q S A B y z fuel (listed.setIfInBounds i true) a w)→K' a w)→if Region.wanted o (yielded ops a.tmps)=true then Oper.wp P o a w K' Q else K' (a.put o.dst undef) w)
  (hs:AllReadyP P md ops Q S A B y z fuel listed a w rs):AllReadyP P md ops Q S A B y z fuel listed a w (i :: rs):=fun j hj=>by
 rcases List.mem_cons.1 hj with rfl | hj
 ·refine wpOp_step ho (fun K' hK=>?_)
  have:=h K' (fun a w hS hW=>hK a w ⟨hS,hW hS⟩)
  split
  ·rename_i hw;rw[if_pos hw] at this;exact this
  rename_i hw;rw[if_neg hw] at this;exact this
 exact hs j hj
theorem wpAnyHP_ready {rs:List Nat} {fuel:Nat} {listed:Array Bool} {a:Act} {w:World} (hr:Region.ready md ops listed=rs) (hne:rs≠[])
  (h:AllReadyP P md ops Q S A B y z fuel listed a w rs):wpAnyHP P md ops Q S A B y z (fuel+1) listed a w :=
 ⟨fun h0=>absurd (hr ▸ h0) hne,hr ▸ h⟩
end
end Go.Proofs.YtcnfhnndppollaaGreatDoor
