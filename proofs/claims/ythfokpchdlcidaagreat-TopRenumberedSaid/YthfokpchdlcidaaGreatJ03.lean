/- What the statements rest on: definitions and walks, part 03. -/
import Derived.Test.YthfokpchdlcidaaGreatJ02
import Derived.Deep.OwnRows
import Derived.Sort.EncStr
import Derived.Lib.ItoaLen
import Derived.Laws.BytesString
import Derived.Lib.IndexBytes
import Derived.Lib.IndexLaws
import Derived.Lib.Split
import Derived.Lib.CountLaws
import Derived.Lib.AtoiTie
import Derived.Lib.AtoiAllCases
import Derived.Lib.ItoaNum
import Derived.Lib.ItoaMem
import Derived.Lib.Strings
set_option maxRecDepth 100000
set_option maxHeartbeats 16000000
set_option linter.unusedSimpArgs false
set_option linter.unusedVariables false
namespace Go.Proofs.YthfokpchdlcidaaGreat
open Go Go.RowKit Go.Shelf
structure Lev where
 f:Int
 t:Int
 d:Int
 w:Int
def Lev.cells (x:Lev):List Value:=[.int .i64 x.f,.int .i64 x.t,.int .i64 x.d,.int .i64 x.w]
structure Levs (w:World) (A:Option Addr) (l:List Lev):Prop where
 rows:RowsAt w A 4 (l.map Lev.cells)
 size:l.length≤1000000
theorem Levs.below {w w':World} {A:Option Addr} {l:List Lev} (h:Levs w A l) (hb:Below w.heap.size w w'):Levs w' A l:=⟨h.rows.below hb,h.size⟩
theorem lev_at {w:World} {A:Option Addr} {l:List Lev} (h:RowsAt w A 4 (l.map Lev.cells)) {k:Nat} {x:Lev} (hk:l[k]?=some x) :
  ∃ b o,A=some ⟨b,o,none⟩∧b<w.heap.size∧w.cell? ⟨b,o+k*4,none⟩=some (.int .i64 x.f)∧w.cell? ⟨b,o+k*4+1,none⟩=some (.int .i64 x.t)∧w.cell? ⟨b,o+k*4+2,none⟩=some (.int .i64 x.d)∧w.cell? ⟨b,o+k*4+3,none⟩=some (.int .i64 x.w):=by
 obtain⟨b,o,hA,hlt,hc⟩:=h k x.cells (by simp[hk])
 exact⟨b,o,hA,hlt,hc 0 _ rfl,hc 1 _ rfl,hc 2 _ rfl,hc 3 _ rfl⟩
def inN (p n:Int):Bool:=decide (0≤p∧p<n)
theorem isN_any (p n:Int) (B:Nat) (w:World) (h:w.cell? ⟨B,0,none⟩=some (.int .i64 n)):Calls Tryz.prog 106 #[.int .i64 p,.pointer (some ⟨B,0,none⟩)] w fun e w'=>e=.returned (.bool (inN p n))∧w=w':=by
 by_cases h0:0≤p
 ·by_cases h1:p<n
  ·have hf:Hid (inN p n=true):=decide_eq_true ⟨h0,h1⟩
   go_enter Tryz.func106,Tryz.ntmps106
   go_wp2
   go_ret
   exact⟨by rw[hf.out];rfl,rfl⟩
  have hf:Hid (inN p n=false):=decide_eq_false (by omega)
  go_enter Tryz.func106,Tryz.ntmps106
  go_wp2
  go_ret
  exact⟨by rw[hf.out];rfl,rfl⟩
 have hf:Hid (inN p n=false):=decide_eq_false (by omega)
 have h0:p<0:=by omega
 go_enter Tryz.func106,Tryz.ntmps106
 go_wp2
 go_ret
 exact⟨by rw[hf.out];rfl,rfl⟩
namespace Cal
def levE (n:Int) (x:Lev):Int:=if inN x.f n=true∧inN x.t n=true then (if x.f=x.t then 3 else if x.d < -100000∨100000<x.d∨x.w<1∨10<x.w then 2 else 0) else 6
def levsE (n:Int):List Lev→Int
 | []=>0
 | x :: r=>if levE n x=0 then levsE n r else levE n x
theorem levsE_drop {n:Int} {l:List Lev} {k:Nat} (h:k<l.length):levsE n (l.drop k)=if levE n l[k]=0 then levsE n (l.drop (k+1)) else levE n l[k]:=by
 rw[List.drop_eq_getElem_cons h];rfl
theorem levsE_zero {n:Int}:∀ {l:List Lev},levsE n l=0→∀ x∈l,levE n x=0
 | [],_,x,hx=>by cases hx
 | y :: r,h,x,hx=>by
  unfold levsE at h
  split at h
  ·rename_i h0
   rcases List.mem_cons.1 hx with e | hx
   ·rw[e];exact h0
   exact levsE_zero h x hx
  rename_i h0;exact absurd h h0
theorem levE_zero {n:Int} {x:Lev} (h:levE n x=0):(0≤x.f∧x.f<n)∧(0≤x.t∧x.t<n)∧x.f≠x.t∧-100000≤x.d∧x.d≤100000∧1≤x.w∧x.w≤10:=by
 unfold levE inN at h
 split at h
 ·rename_i h1
  simp only[decide_eq_true_eq] at h1
  split at h
  ·cases h
  split at h
  ·cases h
  exact⟨h1.1,h1.2,by assumption,by omega⟩
 cases h
def edge (x:Lev):Edge:=⟨x.f.toNat,x.t.toNat,x.d,x.w⟩
def swept (N:Nat) (l:List Lev):Nat→Bool:=sweeps (l.map edge) N only0
def netE (n:Int) (l:List Lev):Int :=
 if n<1∨6<n then 2 else if 20<l.length then 8 else if levsE n l=0 then (if (List.range n.toNat).all (swept n.toNat l)=true then 0 else 29) else levsE n l
theorem sweeps_succ (l:List Edge):∀ (n:Nat) (S:Nat→Bool),sweeps l (n+1) S=sweep1 l (sweeps l n S)
 | 0,_=>rfl
 | n+1,S=>by
  show sweeps l (n+1) (sweep1 l S)=sweep1 l (sweeps l n (sweep1 l S))
  exact sweeps_succ l n (sweep1 l S)
theorem sweep1_take {l:List Edge} {k:Nat} (h:k<l.length) (S:Nat→Bool):sweep1 (l.take (k+1)) S=stepE (sweep1 (l.take k) S) l[k]:=by
 unfold sweep1
 rw[List.take_succ_eq_append_getElem h,List.foldl_append]
 rfl
end Cal
theorem bits_or6:∀ a b:Fin 64,bits .or .i64 (a.val:Int) (b.val:Int)=((a.val ||| b.val:Nat):Int):=by decide +kernel
theorem bits_and6:∀ a b:Fin 64,bits .and .i64 (a.val:Int) (b.val:Int)=((a.val &&& b.val:Nat):Int):=by decide +kernel
end Go.Proofs.YthfokpchdlcidaaGreat
namespace Go.Proofs.YthfokpchdlcidaaGreat
open Go Go.RowKit Go.Shelf
structure CnI (w:World) (n:Int) (W:World):Prop where
 a:W.cell? ⟨w.heap.size,0,none⟩=some (.int .i64 n)
 bel:Below w.heap.size w W
 lt:w.heap.size<W.heap.size
theorem CnI.below {w:World} {n:Int} {X Y:World} (h:CnI w n X) (hb:Below X.heap.size X Y):CnI w n Y:=⟨(hb.cell (p:=⟨w.heap.size,0,none⟩) h.lt).trans h.a,below_step h.bel hb,Nat.lt_of_lt_of_le h.lt hb.size⟩
theorem levE_cases (n:Int) (x:Lev):(inN x.f n=false∧Cal.levE n x=6)∨(inN x.f n=true∧inN x.t n=false∧Cal.levE n x=6)∨(inN x.f n=true∧inN x.t n=true∧x.f=x.t∧Cal.levE n x=3) ∨
  (inN x.f n=true∧inN x.t n=true∧x.f≠x.t∧Cal.levE n x=2∧(x.d < -100000∨(¬x.d < -100000∧100000<x.d)∨(¬x.d < -100000∧¬100000<x.d∧x.w<1)∨(¬x.d < -100000∧¬100000<x.d∧¬x.w<1∧10<x.w))) ∨
  (inN x.f n=true∧inN x.t n=true∧x.f≠x.t∧Cal.levE n x=0∧¬x.d < -100000∧¬100000<x.d∧¬x.w<1∧¬10<x.w):=by
 unfold Cal.levE
 cases inN x.f n
 ·exact .inl ⟨rfl,rfl⟩
 cases inN x.t n
 ·exact .inr (.inl ⟨rfl,rfl,rfl⟩)
 by_cases h:x.f=x.t
 ·exact .inr (.inr (.inl ⟨rfl,rfl,h,by rw[if_pos ⟨rfl,rfl⟩,if_pos h]⟩))
 by_cases g:x.d < -100000∨100000<x.d∨x.w<1∨10<x.w
 ·exact .inr (.inr (.inr (.inl ⟨rfl,rfl,h,by rw[if_pos ⟨rfl,rfl⟩,if_neg h,if_pos g],by omega⟩)))
 exact .inr (.inr (.inr (.inr ⟨rfl,rfl,h,by rw[if_pos ⟨rfl,rfl⟩,if_neg h,if_neg g],by omega,by omega,by omega,by omega⟩)))
theorem wrap_pow {N:Nat} (h:N≤6):IntKind.i64.wrap ((2:Int) ^ N)=((2 ^ N:Nat):Int):=by
 have:N=0∨N=1∨N=2∨N=3∨N=4∨N=5∨N=6:=by omega
 rcases this with rfl | rfl | rfl | rfl | rfl | rfl | rfl <;> decide
theorem wrap_pow1 {N:Nat} (h:N≤6):IntKind.i64.wrap (((2 ^ N:Nat):Int)-1)=((2 ^ N-1:Nat):Int):=by
 have:N=0∨N=1∨N=2∨N=3∨N=4∨N=5∨N=6:=by omega
 rcases this with rfl | rfl | rfl | rfl | rfl | rfl | rfl <;> decide
theorem CheckNet_any (n:Int) (A:Option Addr) (c:Nat) (l:List Lev) (w:World) (hL:Levs w A l) :
  Calls Tryz.prog 69 #[.int .i64 n,.slice A l.length c] w fun e w'=>e=.returned (.int .i64 (Cal.netE n l))∧Below w.heap.size w w':=by
 have hI:Hid (CnI w n (w.alloc (.cells #[.int .i64 n] 3))):=⟨by simp,below_alloc _ _,by simp⟩
 have hsz:=hL.size
 obtain⟨R,hRR⟩:∃ R,Cal.netE n l=R:=⟨_,rfl⟩
 rw[hRR]
 by_cases hn:n<1∨6<n
 ·have hR:Hid (R=2):=by show _=_;rw[←hRR];unfold Cal.netE;rw[if_pos hn]
  clear hRR
  rcases hn with hn | hn
  ·go_enter Tryz.func69,Tryz.ntmps69
   go_wp2_with fail
   go_ret
   exact⟨ret_int hR.out.symm,hI.out.bel⟩
  have hn1:¬n<1:=by omega
  go_enter Tryz.func69,Tryz.ntmps69
  go_wp2_with fail
  go_ret
  exact⟨ret_int hR.out.symm,hI.out.bel⟩
 have hn1:¬n<1:=by omega
 have hn2:¬6<n:=by omega
 by_cases hl:20<l.length
 ·have hR:Hid (R=8):=by show _=_;rw[←hRR];unfold Cal.netE;rw[if_neg hn,if_pos hl]
  have hl1:20<(l.length:Int):=by omega
  clear hRR hn
  go_enter Tryz.func69,Tryz.ntmps69
  go_wp2_with fail
  go_ret
  exact⟨ret_int hR.out.symm,hI.out.bel⟩
 have hR:Hid (R=if Cal.levsE n (l.drop 0)=0 then (if (List.range n.toNat).all (Cal.swept n.toNat l)=true then 0 else 29) else Cal.levsE n (l.drop 0)):=by show _=_;rw[←hRR];unfold Cal.netE;rw[if_neg hn,if_neg hl];rfl
 have hE0:Hid (Cal.levsE n l=Cal.levsE n (l.drop 0)):=rfl
 have hl1:¬20<(l.length:Int):=by omega
 replace hL:=Lib.hid hL
 clear hRR hn
 go_enter Tryz.func69,Tryz.ntmps69
 go_wp2_with fail
 go_loopw [25] (fun i wr=>∃ k:Nat,k≤l.length∧i=.int .i64 k∧Hid (Cal.levsE n l=Cal.levsE n (l.drop k))∧Hid (CnI w n wr)) (fun i _=>l.length-(intOf i).toNat)
 case atStart=>exact⟨0,Nat.zero_le _,rfl,hE0,hI⟩
 case round =>
  clear hE0 hI
  obtain⟨k,hk,rfl,hE,hI⟩:=hrel
  by_cases hlt:k<l.length
  ·have hk':l[k]?=some l[k]:=List.getElem?_eq_getElem hlt
   have hd:=Cal.levsE_drop (n:=n) hlt
   have hcs:=levE_cases n l[k]
   generalize l[k]=x at *
   obtain⟨b,o,rfl,hbl,c0,c1,c2,c3⟩:=lev_at (hL.out.below hI.out.bel).rows hk'
   have lt0:=hI.out.lt
   have n0:=((below_alloc wr (.cells #[.int .i64 x.f,.int .i64 x.t,.int .i64 x.d,.int .i64 x.w] 120)).cell (p:=⟨w.heap.size,0,none⟩) lt0).trans hI.out.a
   have hI2:=Lib.hid (hI.out.below (below_alloc wr (.cells #[.int .i64 x.f,.int .i64 x.t,.int .i64 x.d,.int .i64 x.w] 120)))
   have m1:Hid True:=trivial
   clear hk'
   obtain⟨f,t,d,wt⟩:=x
   dsimp only at *
   have hRk:Hid (∀ v,v≠0→Cal.levE n ⟨f,t,d,wt⟩=v→R=v):=fun v hv hz=>by
    rw[hz,if_neg hv] at hd
    rw[hR.out,show Cal.levsE n (l.drop 0)=v from hE.out.trans hd,if_neg hv]
   have hE2:Hid (Cal.levE n ⟨f,t,d,wt⟩=0→Cal.levsE n l=Cal.levsE n (l.drop (k+1))):=fun hz=>by
    rw[hz,if_pos rfl] at hd
    exact hE.out.trans hd
   clear hd hE hI hR
   rcases hcs with ⟨h1,hz⟩ | ⟨h1,h2,hz⟩ | ⟨h1,h2,h3,hz⟩ | ⟨h1,h2,h3,hz,h4⟩ | ⟨h1,h2,h3,hz,h4,h5,h6,h7⟩
   ·have hR:=Lib.hid (hRk.out _ (by decide) hz)
    replace h1:=Lib.hid h1
    clear hz hE2 hRk
    go_wp2_with (first
     |(go_at_call 106;clear m1;refine (isN_any f n _ _ (by first | exact n0 | simpa using n0)).mono ?_;rintro e0 wn ⟨rfl,rfl⟩;rw[h1.out])
     |(go_at_call 106;refine (isN_any _ n _ _ (by first | exact n0 | simpa using n0)).mono ?_;rintro e0 wn ⟨rfl,rfl⟩;rw[h2.out]))
    go_ret
    exact⟨ret_int hR.out.symm,hI2.out.bel⟩
   ·have hR:=Lib.hid (hRk.out _ (by decide) hz)
    replace h1:=Lib.hid h1
    replace h2:=Lib.hid h2
    clear hz hE2 hRk
    go_wp2_with (first
     |(go_at_call 106;clear m1;refine (isN_any f n _ _ (by first | exact n0 | simpa using n0)).mono ?_;rintro e0 wn ⟨rfl,rfl⟩;rw[h1.out])
     |(go_at_call 106;refine (isN_any _ n _ _ (by first | exact n0 | simpa using n0)).mono ?_;rintro e0 wn ⟨rfl,rfl⟩;rw[h2.out]))
    go_ret
    exact⟨ret_int hR.out.symm,hI2.out.bel⟩
   ·have hR:=Lib.hid (hRk.out _ (by decide) hz)
    replace h1:=Lib.hid h1
    replace h2:=Lib.hid h2
    clear hz hE2 hRk
    subst h3
    go_wp2_with (first
     |(go_at_call 106;clear m1;refine (isN_any f n _ _ (by first | exact n0 | simpa using n0)).mono ?_;rintro e0 wn ⟨rfl,rfl⟩;rw[h1.out])
     |(go_at_call 106;refine (isN_any _ n _ _ (by first | exact n0 | simpa using n0)).mono ?_;rintro e0 wn ⟨rfl,rfl⟩;rw[h2.out]))
    go_ret
    exact⟨ret_int hR.out.symm,hI2.out.bel⟩
   ·have hR:=Lib.hid (hRk.out _ (by decide) hz)
    replace h1:=Lib.hid h1
    replace h2:=Lib.hid h2
    clear hz hE2 hRk
    rcases h4 with h4 | ⟨h4,h5⟩ | ⟨h4,h5,h6⟩ | ⟨h4,h5,h6,h7⟩
    ·go_wp2_with (first
      |(go_at_call 106;clear m1;refine (isN_any f n _ _ (by first | exact n0 | simpa using n0)).mono ?_;rintro e0 wn ⟨rfl,rfl⟩;rw[h1.out])
      |(go_at_call 106;refine (isN_any _ n _ _ (by first | exact n0 | simpa using n0)).mono ?_;rintro e0 wn ⟨rfl,rfl⟩;rw[h2.out]))
     go_ret
     exact⟨ret_int hR.out.symm,hI2.out.bel⟩
    ·go_wp2_with (first
      |(go_at_call 106;clear m1;refine (isN_any f n _ _ (by first | exact n0 | simpa using n0)).mono ?_;rintro e0 wn ⟨rfl,rfl⟩;rw[h1.out])
      |(go_at_call 106;refine (isN_any _ n _ _ (by first | exact n0 | simpa using n0)).mono ?_;rintro e0 wn ⟨rfl,rfl⟩;rw[h2.out]))
     go_ret
     exact⟨ret_int hR.out.symm,hI2.out.bel⟩
    ·go_wp2_with (first
      |(go_at_call 106;clear m1;refine (isN_any f n _ _ (by first | exact n0 | simpa using n0)).mono ?_;rintro e0 wn ⟨rfl,rfl⟩;rw[h1.out])
      |(go_at_call 106;refine (isN_any _ n _ _ (by first | exact n0 | simpa using n0)).mono ?_;rintro e0 wn ⟨rfl,rfl⟩;rw[h2.out]))
     go_ret
     exact⟨ret_int hR.out.symm,hI2.out.bel⟩
    go_wp2_with (first
     |(go_at_call 106;clear m1;refine (isN_any f n _ _ (by first | exact n0 | simpa using n0)).mono ?_;rintro e0 wn ⟨rfl,rfl⟩;rw[h1.out])
     |(go_at_call 106;refine (isN_any _ n _ _ (by first | exact n0 | simpa using n0)).mono ?_;rintro e0 wn ⟨rfl,rfl⟩;rw[h2.out]))
    go_ret
    exact⟨ret_int hR.out.symm,hI2.out.bel⟩
   replace hE2:=Lib.hid (hE2.out hz)
   replace h1:=Lib.hid h1
   replace h2:=Lib.hid h2
   clear hz hRk
   go_wp2_with (first
    |(go_at_call 106;clear m1;refine (isN_any f n _ _ (by first | exact n0 | simpa using n0)).mono ?_;rintro e0 wn ⟨rfl,rfl⟩;rw[h1.out])
    |(go_at_call 106;refine (isN_any _ n _ _ (by first | exact n0 | simpa using n0)).mono ?_;rintro e0 wn ⟨rfl,rfl⟩;rw[h2.out]))
   go_roundw
   case rel=>exact⟨k+1,by omega,by go_num,hE2,hI2⟩
   case measure=>simp[intOf];omega
  obtain rfl:k=l.length:=by omega
  have hz:Cal.levsE n l=0:=by rw[hE.out,List.drop_length];rfl
  have hval:=Lib.hid (Cal.levsE_zero hz)
  replace hR:Hid (R=if (List.range n.toNat).all (Cal.swept n.toNat l)=true then 0 else 29):=by show _=_;rw[hR.out];exact if_pos hz
  clear hz hE
  obtain⟨N,rfl⟩:∃ N:Nat,n=(N:Int):=⟨n.toNat,by omega⟩
  rw[Int.toNat_natCast] at hR
  have hN1:1≤N:=by omega
  have hN6:N≤6:=by omega
  have lt0:=hI.out.lt
  have n0:=hI.out.a
  have p1:=Lib.hid (wrap_pow hN6)
  have p2:=Lib.hid (wrap_pow1 hN6)
  have hc0:Hid (Cal.Codes N 1 (Cal.sweeps (l.map Cal.edge) 0 Cal.only0)):=Cal.codes_only0 hN1
  clear hn1 hn2
  go_wp2_with fail
  refine wp_region_held_drew (S:=Sx wr [(w.heap.size,0,.int .i64 (N:Int))]) (by kernel_rfl) (Sx.mk (by simp only[cs_iff_cons];exact⟨n0,cs_nil _⟩) (Below.refl _ _)).drew (fun hHeld=>?_)
  refine tkHx 0 68 ?_
  refine tkHx 1 69 ?_
  refine tkHx 2 70 ?_
  refine tkHx 3 8 ?_
  refine tkHx 4 9 ?_
  refine wpAnyH_done (by kernel_rfl) ?_ _
  simp only[p1.out,p2.out]
  replace hI:=Lib.hid (hI.out.below hHeld.bel)
  clear hHeld n0 lt0 p1 p2
  generalize wr.drew=wr at *
  have n0:=hI.out.a
  go_wp2_with fail
  clear n0
  go_loopw [8,72] (fun v i wr=>∃ r c:Nat,r≤N∧i=.int .i64 r∧v=.int .i64 c∧Hid (Cal.Codes N c (Cal.sweeps (l.map Cal.edge) r Cal.only0))∧Hid (CnI w N wr)) (fun _ i _=>N-(intOf i).toNat)
  case atStart=>exact⟨0,1,Nat.zero_le _,rfl,rfl,hc0,hI⟩
  case round =>
   clear hc0 hI
   obtain⟨r,c,hr,rfl,rfl,hc,hI⟩:=hrel
   by_cases hrlt:r<N
   ·have hd0:Hid (Cal.Codes N c (Cal.sweep1 ((l.map Cal.edge).take 0) (Cal.sweeps (l.map Cal.edge) r Cal.only0))):=hc.out
    go_wp2_with fail
    go_loopw [8,76] (fun v i wr=>∃ k c:Nat,k≤l.length∧i=.int .i64 k∧v=.int .i64 c∧Hid (Cal.Codes N c (Cal.sweep1 ((l.map Cal.edge).take k) (Cal.sweeps (l.map Cal.edge) r Cal.only0)))∧Hid (CnI w N wr)) (fun _ i _=>l.length-(intOf i).toNat)
    case atStart=>exact⟨0,c,Nat.zero_le _,rfl,rfl,hd0,hI⟩
    case round =>
     clear hd0 hI hc
     obtain⟨k,c,hk,rfl,rfl,hc,hI⟩:=hrel
     by_cases hlt:k<l.length
     ·have hk':l[k]?=some l[k]:=List.getElem?_eq_getElem hlt
      have hv:=Cal.levE_zero (hval.out _ (List.getElem_mem hlt))
      have hst:=Cal.sweep1_take (l:=l.map Cal.edge) (k:=k) (by simpa using hlt) (Cal.sweeps (l.map Cal.edge) r Cal.only0)
      rw[List.getElem_map] at hst
      obtain⟨S,hS⟩:∃ S,Cal.sweep1 ((l.map Cal.edge).take k) (Cal.sweeps (l.map Cal.edge) r Cal.only0)=S:=⟨_,rfl⟩
      rw[hS] at hst hc
      generalize l[k]=x at *
      obtain⟨b,o,rfl,hbl,c0,c1,c2,c3⟩:=lev_at (hL.out.below hI.out.bel).rows hk'
      obtain⟨xf,xt,xd,xw⟩:=x
      dsimp only at *
      obtain⟨⟨f0,f1⟩,⟨t0,t1⟩,-⟩:=hv
      obtain⟨f,rfl⟩:∃ f:Nat,xf=(f:Int):=⟨xf.toNat,by omega⟩
      obtain⟨t,rfl⟩:∃ t:Nat,xt=(t:Int):=⟨xt.toNat,by omega⟩
      have hfN:f<N:=by omega
      have htN:t<N:=by omega
      have q1:=Lib.hid (wrap_pow (N:=f) (by omega))
      have q2:=Lib.hid (wrap_pow (N:=t) (by omega))
      have hc64:c<64:=Nat.lt_of_lt_of_le hc.out.1 (Cal.pow_le6 hN6)
      have hE64:2 ^ f ||| 2 ^ t<64:=Nat.lt_of_lt_of_le (Nat.or_lt_two_pow (Cal.two_pow_lt hfN) (Cal.two_pow_lt htN)) (Cal.pow_le6 hN6)
      have q3:=Lib.hid (bits_or6 ⟨2 ^ f,Nat.lt_of_lt_of_le (Cal.two_pow_lt hfN) (Cal.pow_le6 hN6)⟩ ⟨2 ^ t,Nat.lt_of_lt_of_le (Cal.two_pow_lt htN) (Cal.pow_le6 hN6)⟩)
      have q4:=bits_and6 ⟨c,hc64⟩ ⟨2 ^ f ||| 2 ^ t,hE64⟩
      have q5:=bits_or6 ⟨c,hc64⟩ ⟨2 ^ f ||| 2 ^ t,hE64⟩
      have hhit:=hc.out.hit hN6 hfN htN
      have hnx1:=fun h=>hc.out.step ⟨f,t,xd,xw⟩ hfN htN h
      have hnx2:=fun h=>hc.out.stay ⟨f,t,xd,xw⟩ h
      have hst2:Cal.sweep1 ((l.map Cal.edge).take (k+1)) (Cal.sweeps (l.map Cal.edge) r Cal.only0)=Cal.stepE S ⟨f,t,xd,xw⟩:=by rw[hst];rfl
      dsimp only at hnx1 hnx2 q4 q5 q3
      rw[←hst2] at hnx1 hnx2
      have lt0:=hI.out.lt
      have hI2:=Lib.hid (hI.out.below (below_alloc wr (.cells #[.int .i64 (Lev.mk f t xd xw).f,.int .i64 (Lev.mk f t xd xw).t,.int .i64 (Lev.mk f t xd xw).d,.int .i64 (Lev.mk f t xd xw).w] 120)))
      have e0:(wr.alloc (.cells #[.int .i64 (Lev.mk f t xd xw).f,.int .i64 (Lev.mk f t xd xw).t,.int .i64 (Lev.mk f t xd xw).d,.int .i64 (Lev.mk f t xd xw).w] 120)).cell? ⟨wr.heap.size,0,none⟩=some (.int .i64 (f:Int)):=by simp
      have e1:(wr.alloc (.cells #[.int .i64 (Lev.mk f t xd xw).f,.int .i64 (Lev.mk f t xd xw).t,.int .i64 (Lev.mk f t xd xw).d,.int .i64 (Lev.mk f t xd xw).w] 120)).cell? ⟨wr.heap.size,1,none⟩=some (.int .i64 (t:Int)):=by simp
      dsimp only at e0 e1 hI2
      clear hst hst2 hS hk' hc hI
      go_wp2_with fail
      refine wp_region_held_drew (S:=Sx (wr.alloc (.cells #[.int .i64 (f:Int),.int .i64 (t:Int),.int .i64 xd,.int .i64 xw] 120)) [(wr.heap.size,0,.int .i64 (f:Int)),(wr.heap.size,1,.int .i64 (t:Int))]) (by kernel_rfl) (Sx.mk (by simp only[cs_iff_cons];exact⟨e0,e1,cs_nil _⟩) (Below.refl _ _)).drew (fun hHeld=>?_)
      refine tkHx 0 80 ?_
      refine tkHx 1 81 ?_
      refine tkHx 2 82 ?_
      refine tkHx 3 83 ?_
      refine tkHx 4 84 ?_
      refine tkHx 5 85 ?_
      refine tkHx 6 86 ?_
      refine tkHx 7 12 ?_
      refine wpAnyH_done (by kernel_rfl) ?_ _
      simp only[q1.out,q2.out,q3.out]
      replace hI2:=Lib.hid (hI2.out.below hHeld.bel)
      clear hHeld e0 e1 q1 q2 q3 c0 c1 c2 c3
      generalize (wr.alloc (.cells #[.int .i64 (f:Int),.int .i64 (t:Int),.int .i64 xd,.int .i64 xw] 120)).drew=wn at *
      generalize 2 ^ f ||| 2 ^ t=E at *
      by_cases hz:c &&& E=0
      ·have hnx:=Lib.hid (hnx2 (hhit.1 hz))
       rw[hz] at q4
       clear hnx1 hnx2 hhit hz q5
       go_wp2_with fail
       go_roundw
       case rel=>exact⟨k+1,c,by omega,by go_num,rfl,hnx,hI2⟩
       case measure=>simp[intOf];omega
      have hnx:=Lib.hid (hnx1 (by
       cases h:(S f || S t)
       ·exact absurd (hhit.2 h) hz
       rfl))
      generalize c &&& E=Z at *
      generalize c ||| E=C2 at *
      have hZ:((Z:Int) == 0)=false:=by simpa using hz
      have hZ2:¬(Z:Int)=0:=by omega
      clear hnx1 hnx2 hhit
      go_wp2_with fail
      go_roundw
      case rel=>exact⟨k+1,C2,by omega,by go_num,rfl,hnx,hI2⟩
      case measure=>simp[intOf];omega
     obtain rfl:k=l.length:=by omega
     have hc2:Hid (Cal.Codes N c (Cal.sweeps (l.map Cal.edge) (r+1) Cal.only0)):=by
      show Cal.Codes _ _ _
      rw[Cal.sweeps_succ]
      have:=hc.out
      rw[List.take_of_length_le (by simp)] at this
      exact this
     clear hc
     go_wp2_with fail
     go_roundw
     case rel=>exact⟨r+1,c,by omega,by go_num,rfl,hc2,hI⟩
     case measure=>simp[intOf];omega
   obtain rfl:r=N:=by omega
   have hfull:=hc.out.full hN6
   have hc64:c<64:=Nat.lt_of_lt_of_le hc.out.1 (Cal.pow_le6 hN6)
   have hP:=Cal.pow_le6 hN6
   have hP1:1≤2 ^ r:=Nat.one_le_two_pow
   by_cases hz:c=2 ^ r-1
   ·have hall:(List.range r).all (Cal.swept r l)=true:=by
     rw[List.all_eq_true]
     intro p hp
     exact hfull.1 hz p (List.mem_range.1 hp)
    replace hR:Hid (R=0):=by show _=_;rw[hR.out,if_pos hall]
    have hcz:(c:Int)=((2 ^ r-1:Nat):Int):=by rw[hz]
    clear hall hfull hc
    generalize 2 ^ r-1=M at *
    subst hz
    go_wp2_with fail
    go_ret
    exact⟨ret_int hR.out.symm,hI.out.bel⟩
   have hall:¬(List.range r).all (Cal.swept r l)=true:=fun h=>by
    rw[List.all_eq_true] at h
    exact hz (hfull.2 fun p hp=>h p (List.mem_range.2 hp))
   replace hR:Hid (R=29):=by show _=_;rw[hR.out,if_neg hall]
   clear hall hfull hc
   generalize 2 ^ r-1=M at *
   have hM1:((c:Int) == (M:Int))=false:=by simp;omega
   have hM2:¬(c:Int)=(M:Int):=by omega
   go_wp2_with fail
   go_ret
   exact⟨ret_int hR.out.symm,hI.out.bel⟩
end Go.Proofs.YthfokpchdlcidaaGreat
namespace Go.Proofs.YthfokpchdlcidaaGreat
open Go Go.RowKit Go.Shelf
theorem cut_tail {t:TypeId} {m:Nat} (hu:Tryz.prog.underlying t=some (.slice (Tryz.prog.elem t))) (hz:∀ w,(sizeOf (Tryz.prog.elem t)).run Tryz.prog w=.ok m w) {w:World} {A:Option Addr} {n c:Nat} {rows:List (List Value)} (hn:n=rows.length) (hr:RowsAt w A m rows) (hc:n≤c) {k:Nat} (hk:k≤n) :
  ∃ A1 c1,(∀ w',(Instr.slice t (.slice A n c) (some (.int .i64 (k:Int))) none none).run Tryz.prog w'=.ok (.slice A1 (n-k) c1) w')∧n-k≤c1∧RowsAt w A1 m (rows.drop k):=by
 refine⟨if c=k then A else A.map (·.add (k*m)),c-k,fun w'=>?_,by omega,?_⟩
 ·rw[run_slice_l w' t A n c hu .i64 k (by omega) (by omega),hz]
  simp[Result.andThen,sliced]
 intro j r hj
 rw[List.getElem?_drop] at hj
 obtain⟨b,o,hA,hb,hcell⟩:=hr (k+j) r hj
 have hlt:k+j<rows.length:=(List.getElem?_eq_some_iff.1 hj).1
 refine⟨b,o+k*m,?_,hb,fun i v hv=>?_⟩
 ·rw[if_neg (by omega),hA,Option.map_some,addr_add]
 have:=hcell i v hv
 rw[show o+k*m+(j*m+i)=o+((k+j)*m+i) by rw[Nat.add_mul];omega]
 exact this
end Go.Proofs.YthfokpchdlcidaaGreat
namespace Go.Proofs.YthfokpchdlcidaaGreat
open Go Go.RowKit Go.Shelf
def offC (q:Nat) (r:List Int):List Int:=r.eraseIdx q
def minorL (q:Nat) (M:List (List Int)):List (List Int):=(M.drop 1).map (offC q)
end Go.Proofs.YthfokpchdlcidaaGreat
namespace Go.Proofs.YthfokpchdlcidaaGreat
open Go Go.RowKit Go.Shelf
theorem wrap_eq (x:Int):IntKind.i64.wrap x=wrap64 x:=by rw[IntKind.wrap_i64];unfold wrap64;rfl
def detF:Nat→List (List Int)→Int
 | 0,_=>1
 | n+1,M=>Cal.sumTo (n+1) fun c=>Cal.sg c*((M[0]?.getD [])[c]?.getD 0)*detF n (minorL c M)
end Go.Proofs.YthfokpchdlcidaaGreat
namespace Go.Proofs.YthfokpchdlcidaaGreat
open Go Go.RowKit Go.Shelf
theorem IntsL.lit {w:World} {B:Nat} {v:Value} {zs:List Int} (h:IntsL w B v zs) (hne:0<zs.length):∃ g c,v=.slice (some ⟨g,0,none⟩) zs.length c∧B≤g∧g<w.heap.size:=by
 rcases (IntsL.own h).2 with ⟨_,h2⟩ | ⟨g,cap,cur,h1,h3,h4,h2,_⟩
 ·omega
 exact⟨g,cap,h1,h3,(Array.getElem?_eq_some_iff.1 h4).1⟩
end Go.Proofs.YthfokpchdlcidaaGreat
namespace Go.Proofs.YthfokpchdlcidaaGreat
open Go Go.RowKit Go.Shelf
def listOf (n:Nat) (f:Nat→Int):List Int:=(List.range n).map f
def matOf (n:Nat) (L:Nat→Nat→Int):List (List Int):=(List.range n).map fun i=>listOf n (L i)
end Go.Proofs.YthfokpchdlcidaaGreat
namespace Go.Proofs.YthfokpchdlcidaaGreat
open Go Go.RowKit Go.Shelf
namespace Cal
def edges (l:List Lev):List Edge:=l.map edge
def hD (n:Nat) (l:List Lev):Int:=detF n (minorL 0 (matOf (n+1) (lap (edges l))))
theorem netE_zero {n:Int} {l:List Lev} (h:netE n l=0):1≤n∧n≤6∧l.length≤20∧(∀ x∈l,levE n x=0)∧∀ p,p<n.toNat→swept n.toNat l p=true:=by
 unfold netE at h
 split at h
 ·cases h
 split at h
 ·cases h
 split at h
 ·rename_i h0
  split at h
  ·rename_i h1
   rw[List.all_eq_true] at h1
   exact⟨by omega,by omega,by omega,levsE_zero h0,fun p hp=>h1 p (List.mem_range.2 hp)⟩
  cases h
 rename_i h0;exact absurd h h0
end Cal
end Go.Proofs.YthfokpchdlcidaaGreat
namespace Go.Proofs.YthfokpchdlcidaaGreat
open Go Go.RowKit Go.Shelf
theorem wpListF_append_rows {F:Fence} {n0:Nat} {P:Program} {t e:TypeId} {m bytes:Nat} (el:Elem P t e m bytes) {w:World} {ops:Array Oper} {rest:List Oper} {o:Oper} {a:Act} {Q:Exit→Act→World→Prop} (hg:o.guard=none) (s x:Operand)
  (hop:o.op=Op.call { callee:=Callee.builtin Builtin.append,args:=#[s,x],argTypes:=#[t,t] }) {v:Value} {A:Option Addr} {n c:Nat} (hs:a.eval s=v) (hx:a.eval x=.slice A n c)
  {B:Nat} {rows:List (List Value)} (h:OwnL w B e m v rows) {rows2:List (List Value)} (h2:RowsAt w A m rows2) (hn:n=rows2.length) (hw:∀ r∈rows2,r.length=m) (h1:∀ r∈rows2,∀ u∈r,u.oneCell'=true)
  (h63:rows.length+rows2.length≤4000000000) (hby:bytes≤10000) (hbase:B≤w.heap.size)
  (hK:∀ v' w',OwnL w' B e m v' (rows ++ rows2)→w.grownBy w' v.ownBlock→(v'.ownBlock=v.ownBlock∨v'.ownBlock=some w.heap.size)→wpListIn F n0 P ops Q rest (a.put o.dst v') w'):wpListIn F n0 P ops Q (o :: rest) a w:=by
 refine wpListIn_plain hg fun K hK'=>?_
 obtain⟨v',w',hrun,h3,h4,h5⟩:=run_append_rows el o.type h h2 hn hw h1 h63 hby hbase
 unfold Oper.wpIn
 refine⟨?_,?_⟩
 ·simp[Oper.about,hop,resolve,Target.leads,Sem.run_pure]
 rw[Oper.semAt_plain F _ _ (by rw[hop];intro c hc';cases hc')]
 simp only[execOp,hop,resolve,invoke,builtin,Sem.run_bind,Sem.run_pure,Result.andThen_ok,List.map_toArray,List.map_cons,List.map_nil,hs,hx]
 rw[hrun]
 exact hK' _ _ (hK v' w' h3 h4 h5)
theorem OwnL.keptF {W W':World} {row:Option Nat} {B:Nat} {E:TypeId} {m:Nat} {v:Value} {rows:List (List Value)} (h:OwnL W B E m v rows) (hg:W.grownBy W' row) (hr:Others W row):OwnL W' B E m v rows:=by
 refine h.kept hg ?_
 rcases h.own.2 with ⟨rfl,_⟩ | ⟨g,cap,cur,rfl,_,hh,_⟩
 ·exact .inl rfl
 right
 intro e
 obtain⟨o,ho,hc⟩:=hr g (by rw[←e];rfl)
 rw[hh] at ho
 cases ho
 cases hc
theorem BoxAt.keptF {W W':World} {row:Option Nat} {B:Nat} {cs:List Value} (h:BoxAt W B cs) (hg:W.grownBy W' row) (hr:Others W row):BoxAt W' B cs :=
 ⟨fun j v hv=>cell_kept (h.range j v hv) hg hr,fun j hj=>by
  obtain⟨v,hv⟩:∃ v,cs[j]?=some v:=⟨_,List.getElem?_eq_getElem hj⟩
  have:=h.range j v hv
  rw[Nat.zero_add] at this
  exact (frozen_kept this hg hr).trans (h.free j hj),Nat.lt_of_lt_of_le h.lt hg.size⟩
theorem OwnL.keepsF {W W':World} {B:Nat} {E:TypeId} {m:Nat} {v:Value} {rows:List (List Value)} (h:OwnL W B E m v rows) (hg:W.grownBy W' v.ownBlock):KeepsOthers W W':=by
 refine KeepsOthers.of_grownBy hg fun j o e ho=>?_
 rcases h.own.2 with ⟨rfl,_⟩ | ⟨g,cap,cur,rfl,_,hh,_⟩
 ·cases e
 cases e
 rw[hh] at ho
 cases ho;rfl
theorem OwnL.offF {w:World} {B B':Nat} {E:TypeId} {m:Nat} {v:Value} {rows:List (List Value)} (h:OwnL w B E m v rows) (o:Nat) (u:Value) (hne:B'<B):OwnL (w.setCell ⟨B',o,none⟩ u) B E m v rows:=by
 refine OwnL.kept h (grown_set _ B' o _) ?_
 cases hv:v.ownBlock with
 | none=>exact .inl rfl
 | some g=>right;intro e;have:=(h.lt g hv).1;injection e with e;omega
theorem keepsF_below {W W':World} (hb:Below W.heap.size W W'):KeepsOthers W W':=KeepsOthers.of_grownBy (below_grown hb none) (fun j o e=>by cases e)
theorem belowF_put {w W:World} (h:Below w.heap.size w W) {D:Nat} (hD:w.heap.size≤D) (o:Obj):Below w.heap.size w (W.putObj D o) :=
 h.grown (grownBy_putObj' W D o) h.size (fun k e=>by cases e;exact hD)
end Go.Proofs.YthfokpchdlcidaaGreat
namespace Go.Proofs.YthfokpchdlcidaaGreat
open Go Go.RowKit
structure FromB (B:Nat) (W W':World):Prop where
 size:W.heap.size≤W'.heap.size
 same:∀ b,B≤b→b<W.heap.size→W'.heap[b]?=W.heap[b]?
def AbG (_:Nat) (X Y:World):Prop:=X.grownBy Y none
def SeqIx {α:Type} (F:Fence) (n:Nat) (P:Program) (g:Nat) (lb:Array Value) (encs:α→Array Value) (Ab Kp:Nat→World→World→Prop) (xs:List α) (w:World):Prop :=
 ∀ (l:Nat) (J Jx:Nat→World→Prop) (W:World),Below w.heap.size w W→(∀ k X Y,J k X→Ab W.heap.size X Y→J k Y)→(∀ k X Y,Jx k X→Ab W.heap.size X Y→Jx k Y) →
  (∀ k x W1,xs[k]?=some x→J k W1→YieldAt F (n-1) P l (encs x) W1 fun e W' =>
   (e=.returned (.bool true)∧J (k+1) W'∧Kp W.heap.size W1 W')∨(e=.returned (.bool false)∧Jx k W'∧Kp W.heap.size W1 W')) →
  J 0 W →
  CallsIn F n P g (#[.func (.yield l) #[] #[]] ++ lb) W fun e W'=>(∃ v,e=.returned v)∧(J xs.length W'∨∃ k,k<xs.length∧Jx k W')
theorem SeqIx.inRound {α:Type} {F:Fence} {n:Nat} {P:Program} {g:Nat} {lb:Array Value} {encs:α→Array Value} {Ab Kp:Nat→World→World→Prop} {xs:List α} {w:World} (l:Nat) (h:SeqIx F n P g lb encs Ab Kp xs w):SeqIx (F.inRound l) n P g lb encs Ab Kp xs w:=h
def ixPost (B:Nat) (Kp:World→World→Prop) (In:World→Prop) (Ix:Code→World→Prop) (W:World):Exit→Act→World→Prop
 | .normal,_,W'=>KeepsFrom B W W'∧Kp W W'∧In W'
 | .ret,_,W'=>KeepsFrom B W W'∧Kp W W'∧Ix .ret W'
 | .exit id,_,W'=>KeepsFrom B W W'∧Kp W W'∧Ix (.exit id) W'
 | .goto t,_,W'=>KeepsFrom B W W'∧Kp W W'∧Ix (.goto t) W'
 | .panic _,_,_=>False
 | .outgrown,_,_=>False
theorem FromB.refl (B:Nat) (W:World):FromB B W W:=⟨Nat.le_refl _,fun _ _ _=>rfl⟩
theorem FromB.trans {B:Nat} {X Y Z:World} (h:FromB B X Y) (k:FromB B Y Z):FromB B X Z:=⟨Nat.le_trans h.size k.size,fun b h1 h2=>(k.same b h1 (Nat.lt_of_lt_of_le h2 h.size)).trans (h.same b h1 h2)⟩
variable {F : Fence} {n : Nat} {P : Program} {w : World}
theorem wpIn_rangeFunc_ix {α:Type} {g:Operand} {ps:Array Tmp} {assign body:Code} {Q:Exit→Act→World→Prop} {a:Act} {w:World}
  (hro:F.round=none) (h1:1≤n) {gf:Nat} {lb:Array Value} (hg:a.eval g=.func (.func gf) #[] lb) (hFg:F.fn gf) (eg:∀ args w,(callFunc gf args).run P w=.ok (.enter gf args) w)
  {encs:α→Array Value} {Ab Kp:Nat→World→World→Prop} {xs:List α} {w0:World} (hseq:SeqIx F (n-1) P gf lb encs Ab Kp xs w0)
  (hAb:∀ (X Y:World) (k:Nat) (o:Obj),Ab (w.heap.size+1+1) X Y→k<w.heap.size+1+1→X.heap[k]?=some o→o.isCells=false→Y.heap[k]?=some o)
  (hKt:∀ {A B C:World},Kp (w.heap.size+1+1) A B→Kp (w.heap.size+1+1) B C→Kp (w.heap.size+1+1) A C) (hKb:∀ (W:World) (l:Nat) (o o':Obj),w.heap.size≤l→l<w.heap.size+1+1→W.heap[l]?=some o→o.isCells=false→o.isWalk=false→Kp (w.heap.size+1+1) W (W.putObj l o')) (hb0:Below w0.heap.size w0 w) (hps:∀ x,(encs x).size=ps.size)
  (I:Nat→World→Prop) (Ix:Code→Nat→World→Prop) (hI:OwnFrom w.heap.size I) (hIx:∀ c,OwnFrom w.heap.size (Ix c))
  (hIA:∀ k X Y,I k X→Ab (w.heap.size+1+1) X Y→I k Y) (hIxA:∀ c k X Y,Ix c k X→Ab (w.heap.size+1+1) X Y→Ix c k Y) (h0:I 0 w) (Ax:α→Act→World→Prop) (hAx:∀ x a',OwnFrom w.heap.size (fun (_:Unit) W=>Ax x a' W))
  (hassign:∀ (l:Nat) (k:Nat) (x:α) (W:World) (K:Act→World→Prop),xs[k]?=some x→I k W→(∀ a' W',KeepsFrom w.heap.size W W'→Kp (w.heap.size+1+1) W W'→I k W'→Ax x a' W'→K a' W') →
   assign.wpIn (F.inRound l) (n-1-1) P (Exit.then K (fun _ _ _=>False)) { tmps:=(ps.zip (encs x)).foldl (fun t (p,v)=>t.setIfInBounds p v) a.tmps,defers:=[] } W)
  (hbody:∀ (l:Nat) (k:Nat) (x:α) (a':Act) (W:World),w.heap.size≤l→(∃ r,W.heap[l]?=some (.loop r))→xs[k]?=some x→I k W→Ax x a' W→body.wpIn (F.inRound l) (n-1-1) P (ixPost w.heap.size (Kp (w.heap.size+1+1)) (I (k+1)) (fun c=>Ix c k) W) a' W)
  (hdone:∀ (D:Nat) (W:World),w.heap.size≤D→I xs.length W→W.heap[D]?=some (.deferred (some []))→Q .normal { a with defers:={ target:=.collected D,args:=#[] } :: a.defers } W)
  (hstop:∀ (D:Nat) (c:Code) (k:Nat) (W:World),w.heap.size≤D→k<xs.length→Ix c k W→W.heap[D]?=some (.deferred (some []))→c.wpIn F n P Q { a with defers:={ target:=.collected D,args:=#[] } :: a.defers } W) :
  (Code.rangeFunc g ps assign body).wpIn F n P Q a w:=by
 refine wpIn_rangeFunc ?_
 intro fn hfn
 rw[hro]
 obtain⟨rec,hrec⟩:∃ rec:LoopState→Option Code→Loop,rec=fun st pe=>{ state:=st,pending:=pe,fn,tmps:=a.tmps,params:=ps,assign,body,defers:=w.heap.size }:=⟨_,rfl⟩
 obtain⟨W1,hW1⟩:∃ W1,(w.alloc (.deferred (some []))).alloc (.loop (rec .ready none))=W1:=⟨_,rfl⟩
 have hL1:W1.heap[w.heap.size+1]?=some (.loop (rec .ready none)):=by
  rw[←hW1];have:=World.alloc_heap_new (w.alloc (.deferred (some []))) (.loop (rec .ready none));rwa [World.size_alloc] at this
 have hK1:W1.heap[w.heap.size]?=some (.deferred (some [])):=by
  rw[←hW1];exact (Below.heap_alloc _ _ _ (by simp)).trans (World.alloc_heap_new w _)
 have hI1:I 0 W1:=by rw[←hW1];exact hI.alloc _ (hI.alloc _ h0)
 have hb1:Below w0.heap.size w0 W1:=by
  rw[←hW1];exact hb0.trans ((((Below.refl _ w).alloc (Nat.le_refl _) _).alloc (by simp) _).mono hb0.size)
 refine⟨w.heap.size+1,[{ target:=.collected w.heap.size,args:=#[] }],W1,{ target:=.fn (.func gf) lb,args:=#[.func (.yield (w.heap.size+1)) #[] #[]] },W1,gf,
  #[.func (.yield (w.heap.size+1)) #[] #[]] ++ lb,W1,?_,?_,?_,?_,fun _=>h1,?_⟩
 ·rw[←hW1,hrec];exact run_enterLoop_outer _ _ _ _ _
 ·simp only[resolve,hg]
  simp[go_sem]
 ·intro f' hf';simp[Target.leads] at hf';subst hf';exact hFg
 ·simp[invoke,go_sem,eg]
 -- THE ITERATOR's CONTRACT,AT THE CALLER's INVARIANT WITH THE TWO FACTS OF BOOK-KEEPING BESIDE IT
 have hsz1:W1.heap.size=w.heap.size+1+1:=by rw[←hW1];simp
 rw[←hsz1] at hAb hIA hIxA hKt hKb
 refine (hseq (w.heap.size+1)
  (fun k W=>I k W∧W.heap[w.heap.size+1]?=some (.loop (rec .ready none))∧W.heap[w.heap.size]?=some (.deferred (some [])))
  (fun k W=>∃ c,Ix c k W∧W.heap[w.heap.size+1]?=some (.loop (rec .done (some c)))∧W.heap[w.heap.size]?=some (.deferred (some [])))
  W1 hb1
  (fun k A B hs hab=>⟨hIA k A B hs.1 hab,hAb A B _ _ hab (by rw[hsz1];omega) hs.2.1 rfl,hAb A B _ _ hab (by rw[hsz1];omega) hs.2.2 rfl⟩)
  (fun k A B hs hab=>by
   obtain⟨c,hc,hl,hk⟩:=hs
   exact⟨c,hIxA c k A B hc hab,hAb A B _ _ hab (by rw[hsz1];omega) hl rfl,hAb A B _ _ hab (by rw[hsz1];omega) hk rfl⟩)
  ?_ ⟨hI1,hL1,hK1⟩).mono ?_
 ·-- ONE ROUND
  rintro k x W hx ⟨hi,hl,hk⟩
  have hlt:w.heap.size+1<W.heap.size:=(Array.getElem?_eq_some_iff.1 hl).1
  have hy:=run_yield (P:=P) (args:=encs x) hl (by rw[hrec];exact hps x)
  rw[hrec] at hy
  refine⟨fn,_,assign,body,hy,roundIn_of_wpIn hfn (hassign _ k x W _ hx hi ?_)⟩
  clear hy
  intro a' Wa hkfa hkpa hia hax
  rw[←hsz1] at hkpa
  replace hl:=hkfa.same _ _ (by omega) hl rfl
  replace hk:=hkfa.same _ _ (Nat.le_refl _) hk rfl
  replace hlt:w.heap.size+1<Wa.heap.size:=(Array.getElem?_eq_some_iff.1 hl).1
  replace hi:=hia
  clear hia
  revert hkpa hkfa
  generalize W=Wb
  intro hkfa hkpa
  obtain⟨W,rfl⟩:∃ W,W=Wa:=⟨_,rfl⟩
  refine⟨_,run_beginRound hl (by rw[hrec]),?_⟩
  have hl2:(W.putObj (w.heap.size+1) (.loop { rec .ready none with state:=.busy })).heap[w.heap.size+1]?=some (.loop { rec .ready none with state:=.busy }):=World.putObj_heap_same hlt
  have hk2:(W.putObj (w.heap.size+1) (.loop { rec .ready none with state:=.busy })).heap[w.heap.size]?=some (.deferred (some [])):=(World.putObj_heap_other (by omega)).trans hk
  have hw2:Kp W1.heap.size W (W.putObj (w.heap.size+1) (.loop { rec .ready none with state:=.busy })):=hKb _ _ _ _ (by omega) (by rw[hsz1];omega) hl rfl rfl
  refine wpIn_mono (hbody _ k x a' _ (by omega) ⟨_,hl2⟩ hx (hI.putObj _ hi (by omega) hl rfl) ((hAx x a').putObj (s:=()) _ hax (by omega) hl rfl)) ?_
  have fin:∀ (jump:Option Code) (Wz:World),KeepsFrom w.heap.size (W.putObj (w.heap.size+1) (.loop { rec .ready none with state:=.busy })) Wz →
    (Instr.endRound (w.heap.size+1) jump).run P Wz=.ok (.bool jump.isNone) (Wz.putObj (w.heap.size+1) (.loop (rec (if jump.isNone then .ready else .done) jump))) ∧
    Wz.heap[w.heap.size+1]?=some (.loop { rec .ready none with state:=.busy }) ∧
    (Wz.putObj (w.heap.size+1) (.loop (rec (if jump.isNone then .ready else .done) jump))).heap[w.heap.size+1]?=some (.loop (rec (if jump.isNone then .ready else .done) jump)) ∧
    (Wz.putObj (w.heap.size+1) (.loop (rec (if jump.isNone then .ready else .done) jump))).heap[w.heap.size]?=some (.deferred (some [])):=fun jump Wz hk3=>by
   have hl3:=hk3.same _ _ (by omega) hl2 rfl
   have:=run_endRound (P:=P) jump hl3
   rw[hrec] at this ⊢
   exact⟨this,by rw[hrec] at hl3;exact hl3,World.putObj_heap_same (Array.getElem?_eq_some_iff.1 hl3).1,(World.putObj_heap_other (by omega)).trans (hk3.same _ _ (Nat.le_refl _) hk2 rfl)⟩
  rintro e a3 Wz hp
  cases e with
  | normal =>
   obtain⟨hk3,hkp3,hi3⟩:=hp
   obtain⟨hr,hl3,hl4,hk4⟩:=fin none Wz hk3
   exact⟨_,_,hr,.inl ⟨rfl,⟨hI.putObj _ hi3 (by omega) hl3 rfl,hl4,hk4⟩,hKt hkpa (hKt (hKt hw2 (by rw[hsz1];exact hkp3)) (hKb _ _ _ _ (by omega) (by rw[hsz1];omega) hl3 rfl rfl))⟩⟩
  | ret =>
   obtain⟨hk3,hkp3,hi3⟩:=hp
   obtain⟨hr,hl3,hl4,hk4⟩:=fin (some .ret) Wz hk3
   exact⟨_,_,hr,.inr ⟨rfl,⟨.ret,(hIx _).putObj _ hi3 (by omega) hl3 rfl,hl4,hk4⟩,hKt hkpa (hKt (hKt hw2 (by rw[hsz1];exact hkp3)) (hKb _ _ _ _ (by omega) (by rw[hsz1];omega) hl3 rfl rfl))⟩⟩
  | exit id =>
   obtain⟨hk3,hkp3,hi3⟩:=hp
   obtain⟨hr,hl3,hl4,hk4⟩:=fin (some (.exit id)) Wz hk3
   exact⟨_,_,hr,.inr ⟨rfl,⟨.exit id,(hIx _).putObj _ hi3 (by omega) hl3 rfl,hl4,hk4⟩,hKt hkpa (hKt (hKt hw2 (by rw[hsz1];exact hkp3)) (hKb _ _ _ _ (by omega) (by rw[hsz1];omega) hl3 rfl rfl))⟩⟩
  | goto t =>
   obtain⟨hk3,hkp3,hi3⟩:=hp
   obtain⟨hr,hl3,hl4,hk4⟩:=fin (some (.goto t)) Wz hk3
   exact⟨_,_,hr,.inr ⟨rfl,⟨.goto t,(hIx _).putObj _ hi3 (by omega) hl3 rfl,hl4,hk4⟩,hKt hkpa (hKt (hKt hw2 (by rw[hsz1];exact hkp3)) (hKb _ _ _ _ (by omega) (by rw[hsz1];omega) hl3 rfl rfl))⟩⟩
  | panic ch=>exact hp.elim
  | outgrown=>exact hp.elim
 -- BEHIND THE ITERATOR
 rintro e W2 ⟨⟨v,rfl⟩,(⟨hi,hl,hk⟩ | ⟨k,hSp,c,hi,hl,hk⟩)⟩
 ·exact⟨none,_,by have:=run_endLoop (P:=P) hl (by rw[hrec];simp);rw[hrec] at this;exact this,hdone _ _ (Nat.le_refl _) (hI.putObj _ hi (by omega) hl rfl) ((World.putObj_heap_other (by omega)).trans hk)⟩
 exact⟨some c,_,by have:=run_endLoop (P:=P) hl (by rw[hrec];simp);rw[hrec] at this;exact this,hstop _ c k _ (Nat.le_refl _) hSp ((hIx c).putObj _ hi (by omega) hl rfl) ((World.putObj_heap_other (by omega)).trans hk)⟩
theorem wpIn_rangeFunc_ixN {α:Type} {g:Operand} {ps:Array Tmp} {assign body:Code} {Q:Exit→Act→World→Prop} {a:Act} {w:World}
  {l₀:Nat} {r₀:Loop} (hro:F.round=some l₀) (hl₀:w.heap[l₀]?=some (.loop r₀)) (h1:1≤n) {gf:Nat} {lb:Array Value} (hg:a.eval g=.func (.func gf) #[] lb) (hFg:F.fn gf) (eg:∀ args w,(callFunc gf args).run P w=.ok (.enter gf args) w)
  {encs:α→Array Value} {Ab Kp:Nat→World→World→Prop} {xs:List α} {w0:World} (hseq:SeqIx F (n-1) P gf lb encs Ab Kp xs w0)
  (hAb:∀ (X Y:World) (k:Nat) (o:Obj),Ab (w.heap.size+1) X Y→k<w.heap.size+1→X.heap[k]?=some o→o.isCells=false→Y.heap[k]?=some o)
  (hKt:∀ {A B C:World},Kp (w.heap.size+1) A B→Kp (w.heap.size+1) B C→Kp (w.heap.size+1) A C) (hKb:∀ (W:World) (l:Nat) (o o':Obj),w.heap.size≤l→l<w.heap.size+1→W.heap[l]?=some o→o.isCells=false→o.isWalk=false→Kp (w.heap.size+1) W (W.putObj l o')) (hb0:Below w0.heap.size w0 w) (hps:∀ x,(encs x).size=ps.size)
  (I:Nat→World→Prop) (Ix:Code→Nat→World→Prop) (hI:OwnFrom w.heap.size I) (hIx:∀ c,OwnFrom w.heap.size (Ix c))
  (hIA:∀ k X Y,I k X→Ab (w.heap.size+1) X Y→I k Y) (hIxA:∀ c k X Y,Ix c k X→Ab (w.heap.size+1) X Y→Ix c k Y) (h0:I 0 w) (Ax:α→Act→World→Prop) (hAx:∀ x a',OwnFrom w.heap.size (fun (_:Unit) W=>Ax x a' W))
  (hassign:∀ (l:Nat) (k:Nat) (x:α) (W:World) (K:Act→World→Prop),xs[k]?=some x→I k W→(∀ a' W',KeepsFrom w.heap.size W W'→Kp (w.heap.size+1) W W'→I k W'→Ax x a' W'→K a' W') →
   assign.wpIn (F.inRound l) (n-1-1) P (Exit.then K (fun _ _ _=>False)) { tmps:=(ps.zip (encs x)).foldl (fun t (p,v)=>t.setIfInBounds p v) a.tmps,defers:=[] } W)
  (hbody:∀ (l:Nat) (k:Nat) (x:α) (a':Act) (W:World),w.heap.size≤l→(∃ r,W.heap[l]?=some (.loop r))→xs[k]?=some x→I k W→Ax x a' W→body.wpIn (F.inRound l) (n-1-1) P (ixPost w.heap.size (Kp (w.heap.size+1)) (I (k+1)) (fun c=>Ix c k) W) a' W)
  (hdone:∀ (W:World),I xs.length W→Q .normal a W)
  (hstop:∀ (c:Code) (k:Nat) (W:World),k<xs.length→Ix c k W→c.wpIn F n P Q a W) :
  (Code.rangeFunc g ps assign body).wpIn F n P Q a w:=by
 refine wpIn_rangeFunc ?_
 intro fn hfn
 rw[hro]
 obtain⟨rec,hrec⟩:∃ rec:LoopState→Option Code→Loop,rec=fun st pe=>{ state:=st,pending:=pe,fn,tmps:=a.tmps,params:=ps,assign,body,defers:=r₀.defers }:=⟨_,rfl⟩
 obtain⟨W1,hW1⟩:∃ W1,w.alloc (.loop (rec .ready none))=W1:=⟨_,rfl⟩
 have hL1:W1.heap[w.heap.size]?=some (.loop (rec .ready none)):=by rw[←hW1];exact World.alloc_heap_new w _
 have hI1:I 0 W1:=by rw[←hW1];exact hI.alloc _ h0
 have hb1:Below w0.heap.size w0 W1:=by
  rw[←hW1];exact hb0.trans (((Below.refl _ w).alloc (Nat.le_refl _) _).mono hb0.size)
 refine⟨w.heap.size,[],W1,{ target:=.fn (.func gf) lb,args:=#[.func (.yield w.heap.size) #[] #[]] },W1,gf,
  #[.func (.yield w.heap.size) #[] #[]] ++ lb,W1,?_,?_,?_,?_,fun _=>h1,?_⟩
 ·rw[←hW1,hrec];exact run_enterLoop_inner hl₀ _ _ _ _ _
 ·simp only[resolve,hg]
  simp[go_sem]
 ·intro f' hf';simp[Target.leads] at hf';subst hf';exact hFg
 ·simp[invoke,go_sem,eg]
 have hsz1:W1.heap.size=w.heap.size+1:=by rw[←hW1];simp
 rw[←hsz1] at hAb hIA hIxA hKt hKb
 refine (hseq w.heap.size
  (fun k W=>I k W∧W.heap[w.heap.size]?=some (.loop (rec .ready none)))
  (fun k W=>∃ c,Ix c k W∧W.heap[w.heap.size]?=some (.loop (rec .done (some c))))
  W1 hb1
  (fun k A B hs hab=>⟨hIA k A B hs.1 hab,hAb A B _ _ hab (by rw[hsz1];omega) hs.2 rfl⟩)
  (fun k A B hs hab=>by
   obtain⟨c,hc,hl⟩:=hs
   exact⟨c,hIxA c k A B hc hab,hAb A B _ _ hab (by rw[hsz1];omega) hl rfl⟩)
  ?_ ⟨hI1,hL1⟩).mono ?_
 ·-- ONE ROUND
  rintro k x W hx ⟨hi,hl⟩
  have hlt:w.heap.size<W.heap.size:=(Array.getElem?_eq_some_iff.1 hl).1
  have hy:=run_yield (P:=P) (args:=encs x) hl (by rw[hrec];exact hps x)
  rw[hrec] at hy
  refine⟨fn,_,assign,body,hy,roundIn_of_wpIn hfn (hassign _ k x W _ hx hi ?_)⟩
  clear hy
  intro a' Wa hkfa hkpa hia hax
  rw[←hsz1] at hkpa
  replace hl:=hkfa.same _ _ (Nat.le_refl _) hl rfl
  replace hlt:w.heap.size<Wa.heap.size:=(Array.getElem?_eq_some_iff.1 hl).1
  replace hi:=hia
  clear hia
  revert hkpa hkfa
  generalize W=Wb
  intro hkfa hkpa
  obtain⟨W,rfl⟩:∃ W,W=Wa:=⟨_,rfl⟩
  refine⟨_,run_beginRound hl (by rw[hrec]),?_⟩
  have hl2:(W.putObj w.heap.size (.loop { rec .ready none with state:=.busy })).heap[w.heap.size]?=some (.loop { rec .ready none with state:=.busy }):=World.putObj_heap_same hlt
  have hw2:Kp W1.heap.size W (W.putObj w.heap.size (.loop { rec .ready none with state:=.busy })):=hKb _ _ _ _ (Nat.le_refl _) (by rw[hsz1];omega) hl rfl rfl
  refine wpIn_mono (hbody _ k x a' _ (Nat.le_refl _) ⟨_,hl2⟩ hx (hI.putObj _ hi (Nat.le_refl _) hl rfl) ((hAx x a').putObj (s:=()) _ hax (Nat.le_refl _) hl rfl)) ?_
  have fin:∀ (jump:Option Code) (Wz:World),KeepsFrom w.heap.size (W.putObj w.heap.size (.loop { rec .ready none with state:=.busy })) Wz →
    (Instr.endRound w.heap.size jump).run P Wz=.ok (.bool jump.isNone) (Wz.putObj w.heap.size (.loop (rec (if jump.isNone then .ready else .done) jump))) ∧
    Wz.heap[w.heap.size]?=some (.loop { rec .ready none with state:=.busy }) ∧
    (Wz.putObj w.heap.size (.loop (rec (if jump.isNone then .ready else .done) jump))).heap[w.heap.size]?=some (.loop (rec (if jump.isNone then .ready else .done) jump)):=fun jump Wz hk3=>by
   have hl3:=hk3.same _ _ (Nat.le_refl _) hl2 rfl
   have:=run_endRound (P:=P) jump hl3
   rw[hrec] at this ⊢
   exact⟨this,by rw[hrec] at hl3;exact hl3,World.putObj_heap_same (Array.getElem?_eq_some_iff.1 hl3).1⟩
  rintro e a3 Wz hp
  cases e with
  | normal =>
   obtain⟨hk3,hkp3,hi3⟩:=hp
   obtain⟨hr,hl3,hl4⟩:=fin none Wz hk3
   exact⟨_,_,hr,.inl ⟨rfl,⟨hI.putObj _ hi3 (Nat.le_refl _) hl3 rfl,hl4⟩,hKt hkpa (hKt (hKt hw2 (by rw[hsz1];exact hkp3)) (hKb _ _ _ _ (Nat.le_refl _) (by rw[hsz1];omega) hl3 rfl rfl))⟩⟩
  | ret =>
   obtain⟨hk3,hkp3,hi3⟩:=hp
   obtain⟨hr,hl3,hl4⟩:=fin (some .ret) Wz hk3
   exact⟨_,_,hr,.inr ⟨rfl,⟨.ret,(hIx _).putObj _ hi3 (Nat.le_refl _) hl3 rfl,hl4⟩,hKt hkpa (hKt (hKt hw2 (by rw[hsz1];exact hkp3)) (hKb _ _ _ _ (Nat.le_refl _) (by rw[hsz1];omega) hl3 rfl rfl))⟩⟩
  | exit id =>
   obtain⟨hk3,hkp3,hi3⟩:=hp
   obtain⟨hr,hl3,hl4⟩:=fin (some (.exit id)) Wz hk3
   exact⟨_,_,hr,.inr ⟨rfl,⟨.exit id,(hIx _).putObj _ hi3 (Nat.le_refl _) hl3 rfl,hl4⟩,hKt hkpa (hKt (hKt hw2 (by rw[hsz1];exact hkp3)) (hKb _ _ _ _ (Nat.le_refl _) (by rw[hsz1];omega) hl3 rfl rfl))⟩⟩
  | goto t =>
   obtain⟨hk3,hkp3,hi3⟩:=hp
   obtain⟨hr,hl3,hl4⟩:=fin (some (.goto t)) Wz hk3
   exact⟨_,_,hr,.inr ⟨rfl,⟨.goto t,(hIx _).putObj _ hi3 (Nat.le_refl _) hl3 rfl,hl4⟩,hKt hkpa (hKt (hKt hw2 (by rw[hsz1];exact hkp3)) (hKb _ _ _ _ (Nat.le_refl _) (by rw[hsz1];omega) hl3 rfl rfl))⟩⟩
  | panic ch=>exact hp.elim
  | outgrown=>exact hp.elim
 -- BEHIND THE ITERATOR
 rintro e W2 ⟨⟨v,rfl⟩,(⟨hi,hl⟩ | ⟨k,hSp,c,hi,hl⟩)⟩
 ·exact⟨none,_,by have:=run_endLoop (P:=P) hl (by rw[hrec];simp);rw[hrec] at this;exact this,hdone _ (hI.putObj _ hi (Nat.le_refl _) hl rfl)⟩
 exact⟨some c,_,by have:=run_endLoop (P:=P) hl (by rw[hrec];simp);rw[hrec] at this;exact this,hstop c k _ hSp ((hIx c).putObj _ hi (Nat.le_refl _) hl rfl)⟩
end Go.Proofs.YthfokpchdlcidaaGreat
namespace Go.Proofs.YthfokpchdlcidaaGreat.Cal
open Go.Lib
abbrev Txt:=List UInt8
end Go.Proofs.YthfokpchdlcidaaGreat.Cal
namespace Go.Proofs.YthfokpchdlcidaaGreat
open Go Go.RowKit Go.Sort
def txtRows (zs:List Cal.Txt):List (List Value):=zs.map fun n=>[encStr n]
def TextsL (w:World) (B:Nat) (v:Value) (zs:List Cal.Txt):Prop:=OwnL w B 9 1 v (txtRows zs)
theorem txtRows_length (zs:List Cal.Txt):(txtRows zs).length=zs.length:=by unfold txtRows;simp
theorem txtRows_wid (zs:List Cal.Txt):∀ r∈txtRows zs,r.length=1:=fun r hr=>by obtain⟨n,_,rfl⟩:=List.mem_map.1 hr;rfl
theorem txtRows_one (zs:List Cal.Txt):∀ r∈txtRows zs,∀ u∈r,u.oneCell'=true:=fun r hr u hu=>by
 obtain⟨n,_,rfl⟩:=List.mem_map.1 hr
 simp only[List.mem_singleton] at hu;subst hu;rfl
theorem txtRows_flat (zs:List Cal.Txt):(txtRows zs).flatten=zs.map encStr:=by
 induction zs with
 | nil=>rfl
 | cons z zs ih=>unfold txtRows at ih ⊢;rw[List.map_cons,List.flatten_cons,ih];rfl
theorem TextsL.of {w:World} {B:Nat} {v:Value} {zs:List Cal.Txt} (h:w.ownsRow B 9 1 v zs.length (zs.map encStr)):TextsL w B v zs :=
 ⟨by rw[txtRows_length,txtRows_flat];exact h,txtRows_wid zs,txtRows_one zs⟩
end Go.Proofs.YthfokpchdlcidaaGreat
namespace Go.Proofs.YthfokpchdlcidaaGreat
open Go Go.RowKit
def Cal.rest (u:Nat):List UInt8:=if u=0 then [] else Lib.decDigits u
def DecI (U u:Nat) (s:ByteArray):Prop:=(s.data.toList=[]∧u=U)∨(s.data.toList≠[]∧Cal.rest u ++ s.data.toList=Lib.decDigits U)
theorem DecI.done {U:Nat} {s:ByteArray} (h:DecI U 0 s) (hc:s.data.toList≠[]):s.data.toList=Lib.decDigits U:=by
 rcases h with ⟨h1,_⟩ | ⟨_,h2⟩
 ·exact absurd h1 hc
 unfold Cal.rest at h2;simpa using h2
end Go.Proofs.YthfokpchdlcidaaGreat
namespace Go.Proofs.YthfokpchdlcidaaGreat.Cal
open Go.Lib
def cutT (c:UInt8):List UInt8→List (List UInt8)
 | []=>[[]]
 | x :: r=>if x=c then [] :: cutT c r else (x :: (cutT c r).headD []) :: (cutT c r).tail
theorem cutT_free {c:UInt8} {a:List UInt8} (h:c∉a):cutT c a=[a]:=by
 induction a with
 | nil=>rfl
 | cons x r ih =>
  have hx:x≠c:=fun e=>h (e ▸ List.mem_cons_self)
  rw[cutT,if_neg hx,ih (fun hm=>h (List.mem_cons_of_mem _ hm))];rfl
structure CutTo (c:UInt8) (l:List UInt8) (out:List (List UInt8)) (st i:Nat):Prop where
 all:out ++ cutT c (l.drop st)=cutT c l
 free:c∉(l.drop st).take (i-st)
 le:st≤i
theorem CutTo.done {c:UInt8} {l:List UInt8} {out:List (List UInt8)} {st:Nat} (h:CutTo c l out st l.length):cutT c l=out ++ [l.drop st]:=by
 have hf:=h.free
 rw[List.take_of_length_le (by rw[List.length_drop];omega)] at hf
 rw[←h.all,cutT_free hf]
end Go.Proofs.YthfokpchdlcidaaGreat.Cal
namespace Go.Proofs.YthfokpchdlcidaaGreat
open Go Go.RowKit
theorem list_len (s:ByteArray):s.data.toList.length=s.size:=(Lib.size_eq s).symm
def DecTo (l:List UInt8) (k m:Nat):Prop:=Lib.decFrom 0 (l.take k)=some m∧m<10 ^ k
theorem DecTo.done {s:ByteArray} {m:Nat} (h:DecTo s.data.toList s.size m) (h1:1≤s.size):Lib.decNat s.data.toList=some m:=by
 have hl:=list_len s
 have h0:=h.1
 rw[List.take_of_length_le (by omega)] at h0
 unfold Lib.decNat
 rw[if_neg (by rw[List.isEmpty_iff];intro e;rw[e] at hl;simp at hl;omega)]
 exact h0
end Go.Proofs.YthfokpchdlcidaaGreat
