/- What the statements rest on: definitions and walks, part 01. -/
import Derived.Test.YtoojdkaimhlcbaaGreatRows
import Derived.WalkKit
import Derived.WalkSpells
import Derived.WalkLawsBesides
import Derived.ProofKit
import Derived.Lib.Hide
import Derived.Below
import Derived.LoopTactic
import Derived.Deep.LoopGhost
import Derived.Deep.Draws
import Derived.Deep.QuietTactic
import Derived.BigQuiet
import Derived.Deep.DeepFit
import Derived.Outline
import Derived.IntWalk
import Derived.ChangeSame
import Derived.Maps.OwnSet
import Derived.Maps.OwnOps
import Derived.Shelf.Small.Bits
import Derived.Shelf.Small.Wraps
import Derived.Shelf.Strconv.Itoa0
import Derived.Shelf.Sort.Plain
import Derived.Shelf.Slices.CompactS
import Derived.Ground.Names2Prog
import Derived.Shelf.Slices.SearchI
import Derived.Shelf.Slices.Cells
import Derived.Shelf.Slices.In.SortNone
import Derived.Test.YtoojdkaimhlcbaaGreatProg
import Derived.Laws.AppendOwnNone
import Derived.Deep.AppendLies
import Derived.Lib.SlicesCompact
import Derived.Laws.OwnMore
import Derived.Sort.Grow
import Derived.RangeFuncNested
import Derived.RangeFuncBound
import Derived.RangeFuncCalls
import Derived.RangeFuncLeaves
import Derived.Shelf.Abstract
import Derived.Shelf.RegionOpen
import Derived.OwnWalkIn
import Derived.TacticsInMore
import Derived.LoopNIn
import Derived.LoopIn
import Derived.Deep.MidRow
import Derived.Deep.RegionHeld3
import Derived.RangeFuncBox
import Derived.Deep.RegionWith
import Derived.Laws.MakeOwn
import Derived.Carry
set_option maxRecDepth 100000
set_option maxHeartbeats 16000000
set_option linter.unusedSimpArgs false
set_option linter.unusedVariables false
namespace Go.Proofs.YtoojdkaimhlcbaaGreat
open Go Go.RowKit Go.WideShapes Go.ChangeShapes
theorem ret_int {k:IntKind} {a b:Int} (h:a=b):Ending.returned (.int k a)=.returned (.int k b):=by rw[h]
theorem ret_bool {a b:Bool} (h:a=b):Ending.returned (.bool a)=.returned (.bool b):=by rw[h]
theorem below_drewN {B:Nat} {a w:World} (h:Below B a w) (n:Nat):Below B a (w.drewN n):=⟨h.os,h.tape,h.output,h.size,h.block⟩
theorem below_of_drewN {w w':World} {n:Nat} (h:Below (w.drewN n).heap.size (w.drewN n) w'):Below w.heap.size w w':=⟨h.os,h.tape,h.output,h.size,h.block⟩
theorem below_step {w a b:World} (h:Below w.heap.size w a) (k:Below a.heap.size a b):Below w.heap.size w b:=h.trans (k.mono h.size)
theorem below_alloc (w:World) (o:Obj):Below w.heap.size w (w.alloc o):=(Below.refl _ _).alloc (Nat.le_refl _) o
section
variable {f : FuncId} {args : Array Value} {w : World} {K : Ending → World → Prop} {p q : Prop} {dp : Decidable p} {dq : Decidable q}
variable {n : Nat}
end
theorem blw {B:Nat} {a w:World} (h:Below B a w:=by (repeat (first | assumption | exact Below.refl _ _ | exact below_alloc _ _ | refine below_drewN ?_ _ | refine Below.drew ?_ | (refine Below.setCell ?_ ?_ _;rotate_left;focus (first | omega | (simp;done) | (simp;omega))) | (refine Below.alloc ?_ ?_ _;rotate_left;focus (first | omega | (simp;done) | (simp;omega)))))):Below B a w:=h
section
variable {H : Type} {enc : TypeId × Value → H} {P : Program}
theorem post_of_below {f:Func} {s:ChangeSpec} {apart fresh handsOn again:Bool} {W W':World} {args:Array Value} {v:Value} {ds gs:List (DataW H)} {before pa pv:List MemPlace}
  (hW:DataW.Whole enc P f.params.toList s.vars apart W args.toList ds gs before)
  (hres:∀ (b:Nat) (sp:Nat→Bool) (hd:Bool),DataW.TrodAll enc P W' b sp hd f.resultTypes.toList (v.resultList f.resultTypes.size) (s.fn H (ds ++ gs)).results [])
  (hargs:∀ sp:Nat→Bool,(∀ p∈before,sp p.block=true)→DataW.TrodAll enc P W' 0 sp true f.params.toList args.toList (s.fn H (ds ++ gs)).args pa)
  (hvars:∀ sp:Nat→Bool,(∀ p∈before,sp p.block=true)→DataW.TrodVars enc P W' sp s.vars (s.fn H (ds ++ gs)).vars pv)
  (hps:before=pa ++ pv) (hb:Below W.heap.size W W')
  (hok:∀ (j:Nat) (t:TypeId) (r:Value),f.resultTypes[j]?=some t→(v.resultList f.resultTypes.size)[j]?=some r→Value.okWide P W' .any 0 t r) :
  s.post enc P f apart fresh handsOn again W args v W':=by
 have hlt:∀ p∈before,p.block<W.heap.size:=fun p hp=>hW.lt p hp
 have hold:∀ p∈before,(fun b=>decide (b<W.heap.size)) p.block=true:=fun p hp=>by simpa using hlt p hp
 refine⟨ds,gs,before,[],pa,pv,hW,hres _ _ _,hargs _ hold,hvars _ hold,World.keptBut_mono (fun p hp=>⟨hp,?_⟩) (hb.frame (·∈before)),fun _=>?_⟩
 ·rw[hps,List.mem_append] at hp
  exact Or.inr hp
 obtain⟨_,_,_,_,_,hz,hn⟩:=hW
 refine⟨hok,_,_,([] ++ pa) ++ pv,⟨[] ++ pa,pv,trodAll_append (hargs _ (fun _ _=>rfl)) (hres _ _ _),hvars _ (fun _ _=>rfl),rfl,?_,?_⟩,?_⟩
 ·intro b off hp
  have hin:MemPlace.cell b off∈before:=by rw[hps];simpa using hp
  rw[hb.frozen (hlt _ hin)]
  exact hz b off hin
 ·intro ha
  have:=hn ha
  rw[hps] at this
  simpa using this
 intro p hp _
 rw[hps]
 simpa using hp
end
end Go.Proofs.YtoojdkaimhlcbaaGreat
namespace Go.Proofs.YtoojdkaimhlcbaaGreat.Cal
def leapB (y:Int):Bool:=decide (y % 4=0) && (!decide (y % 100=0) || decide (y % 400=0))
def lp (y:Int):Int:=if leapB y=true then 1 else 0
def mlen (y m:Int):Int :=
 if m=2 then 28+lp y else if m=4∨m=6∨m=9∨m=11 then 30 else 31
def beg (y:Int):Int:=365*(y-1800)+(y-1) / 4-(y-1) / 100+(y-1) / 400-436
def cum (y m:Int):Int :=
 if m≤1 then 0 else if m=2 then 31 else if m=3 then 59+lp y else if m=4 then 90+lp y else if m=5 then 120+lp y else if m=6 then 151+lp y
 else if m=7 then 181+lp y else if m=8 then 212+lp y else if m=9 then 243+lp y else if m=10 then 273+lp y else if m=11 then 304+lp y else if m=12 then 334+lp y else 365+lp y
def first (y m:Int):Int:=beg y+cum y m
theorem lp_01 (y:Int):lp y=0∨lp y=1:=by unfold lp;split <;> simp
theorem lp_ge (y:Int):0≤lp y:=by rcases lp_01 y with h | h <;> omega
theorem lp_le (y:Int):lp y≤1:=by rcases lp_01 y with h | h <;> omega
theorem lp_eq (y:Int):lp y=y / 4-(y-1) / 4-(y / 100-(y-1) / 100)+(y / 400-(y-1) / 400):=by
 unfold lp leapB
 by_cases h4:y % 4=0 <;> by_cases h100:y % 100=0 <;> by_cases h400:y % 400=0 <;> simp[h4,h100,h400] <;> omega
theorem beg_succ (y:Int):beg (y+1)=beg y+365+lp y:=by
 rw[lp_eq];unfold beg
 have:y+1-1=y:=by omega
 rw[this];omega
theorem cum_succ (y m:Int) (h1:1≤m) (h2:m≤12):cum y (m+1)=cum y m+mlen y m:=by
 have h:m=1∨m=2∨m=3∨m=4∨m=5∨m=6∨m=7∨m=8∨m=9∨m=10∨m=11∨m=12:=by omega
 rcases h with rfl | rfl | rfl | rfl | rfl | rfl | rfl | rfl | rfl | rfl | rfl | rfl <;> simp[cum,mlen] <;> omega
theorem cum_13 (y:Int):cum y 13=365+lp y:=by simp[cum]
theorem cum_mono (y:Int) {m k:Int} (h:m≤k):cum y m≤cum y k:=by
 have:=lp_ge y;have:=lp_le y
 unfold cum;omega
theorem first_13 (y:Int):first y 13=beg (y+1):=by simp[first,cum_13,beg_succ];omega
theorem first_succ (y m:Int) (h1:1≤m) (h2:m≤12):first y (m+1)=first y m+mlen y m:=by
 unfold first;rw[cum_succ y m h1 h2];omega
theorem first_le (y:Int) {m k:Int} (h:m≤k):first y m≤first y k:=by
 unfold first;have:=cum_mono y h;omega
theorem first_hi (y m:Int) (h1:1≤m) (h2:m≤12):first y m+mlen y m≤beg (y+1):=by
 rw[←first_succ y m h1 h2,←first_13];exact first_le y (by omega)
structure IsDate (y m d day:Int):Prop where
 m1:1≤m
 m2:m≤12
 d1:1≤d
 d2:d≤mlen y m
 day:first y m+d-1=day
theorem IsDate.hi {y m d day:Int} (h:IsDate y m d day):day<beg (y+1):=by
 have:=first_hi y m h.m1 h.m2;have:=h.day;have:=h.d2;omega
end Go.Proofs.YtoojdkaimhlcbaaGreat.Cal
namespace Go.Proofs.YtoojdkaimhlcbaaGreat
open Go Go.RowKit
theorem Within_any (n lo hi:Int) (w:World) :
  Calls Tryz.prog 25 #[.int .i64 n,.int .i64 lo,.int .i64 hi] w fun e w'=>e=.returned (.bool (decide (lo≤n) && decide (n≤hi)))∧w=w':=by
 by_cases h1:lo≤n
 ·by_cases h2:n≤hi
  all_goals
   go_enter Tryz.func25,Tryz.ntmps25
   go_wp2
   go_ret
   exact⟨by simp;omega,rfl⟩
 go_enter Tryz.func25,Tryz.ntmps25
 go_wp2
 go_ret
 exact⟨by simp;omega,rfl⟩
end Go.Proofs.YtoojdkaimhlcbaaGreat
namespace Go.Proofs.YtoojdkaimhlcbaaGreat
open Go Go.RowKit
def byteAt (s:ByteArray) (j:Nat):Int:=if h:j<s.size then (s[j].toNat:Int) else 0
theorem byteAt_eq {s:ByteArray} {j:Nat} (h:j<s.size):byteAt s j=(s[j].toNat:Int):=by unfold byteAt;rw[dif_pos h]
def okAt (s:ByteArray) (j:Nat):Bool:=decide (97≤byteAt s j∧byteAt s j≤122) || decide (65≤byteAt s j∧byteAt s j≤90) || (decide (j≠0) && (decide (byteAt s j=45) || decide (48≤byteAt s j∧byteAt s j≤57)))
def nameB (s:ByteArray):Bool:=decide (1≤s.size∧s.size≤12∧∀ j,j<s.size→okAt s j=true)
def okTo (s:ByteArray) (k:Nat):Prop:=∀ j,j<k→okAt s j=true
theorem okTo_zero (s:ByteArray):okTo s 0:=fun j h=>by omega
theorem okTo_succ {s:ByteArray} {k:Nat} (h:okTo s k) (h2:okAt s k=true):okTo s (k+1):=fun j hj=>by
 rcases Nat.lt_or_ge j k with h3 | h3
 ·exact h j h3
 obtain rfl:j=k:=by omega
 exact h2
theorem nameB_yes {s:ByteArray} (h1:1≤s.size) (h2:s.size≤12) (h:okTo s s.size):nameB s=true:=by unfold nameB;simp;exact⟨h1,h2,h⟩
theorem nameB_no {s:ByteArray} {k:Nat} (h:k<s.size) (h2:okAt s k=false):nameB s=false:=by
 unfold nameB;rw[decide_eq_false_iff_not];rintro⟨_,_,h3⟩;rw[h3 k h] at h2;cases h2
theorem nameB_size {s:ByteArray} (h:s.size<1∨12<s.size):nameB s=false:=by
 unfold nameB;rw[decide_eq_false_iff_not];rintro⟨_,_,_⟩;omega
theorem isEmpty_yes {s:ByteArray} (h:s.size=0):s.toList.isEmpty=true:=by rw[ByteArray.toList_eq];simpa using Array.eq_empty_of_size_eq_zero h
theorem isEmpty_no {s:ByteArray} (h:1≤s.size):s.toList.isEmpty=false:=by
 rw[ByteArray.toList_eq]
 cases hh:s.data.toList with
 | nil =>
  have:s.size=0:=by have:=congrArg List.length hh;simpa using this
  omega
 | cons a l=>rfl
end Go.Proofs.YtoojdkaimhlcbaaGreat
namespace Go.Proofs.YtoojdkaimhlcbaaGreat
open Go Go.RowKit
theorem IsName_any (s:ByteArray) (w:World) (hs:s.size≤maxLen) :
  Calls Tryz.prog 26 #[.string s] w fun e w'=>e=.returned (.bool (nameB s))∧w=w':=by
 unfold maxLen at hs
 by_cases h0:s.size<1
 ·have hfin:=Lib.hid (nameB_size (s:=s) (by omega))
  go_enter Tryz.func26,Tryz.ntmps26
  go_wp2
  go_ret
  exact⟨ret_bool hfin.out.symm,rfl⟩
 have h1:1≤s.size:=by omega
 clear h0
 by_cases h12:s.size≤12
 ·have hlt0:0<s.size:=h1
  have hb0:=byteAt_eq hlt0
  have hok:=okTo_zero s
  have hyes:=Lib.hid (fun h:okAt s 0=true=>okTo_succ hok h)
  have hno:=Lib.hid (fun h:okAt s 0=false=>nameB_no hlt0 h)
  clear hok
  have hcl:(97≤(s[0].toNat:Int)∧(s[0].toNat:Int)≤122)∨(65≤(s[0].toNat:Int)∧(s[0].toNat:Int)≤90)∨(48≤(s[0].toNat:Int)∧(s[0].toNat:Int)≤57)∨(s[0].toNat:Int)=45∨(s[0].toNat:Int)<45∨(46≤(s[0].toNat:Int)∧(s[0].toNat:Int)≤47)∨(58≤(s[0].toNat:Int)∧(s[0].toNat:Int)≤64)∨(91≤(s[0].toNat:Int)∧(s[0].toNat:Int)≤96)∨123≤(s[0].toNat:Int):=by omega
  have c0:0≤(s[0].toNat:Int):=by omega
  have hmain:okTo s 1→((97≤(s[0].toNat:Int)∧(s[0].toNat:Int)≤122)∨(65≤(s[0].toNat:Int)∧(s[0].toNat:Int)≤90))→Calls Tryz.prog 26 #[.string s] w fun e w'=>e=.returned (.bool (nameB s))∧w=w':=by
   intro hok1 hc
   have hok1:=Lib.hid hok1
   clear hcl hyes hno hb0
   rcases hc with ⟨ca,cb⟩ | ⟨ca,cb⟩
   all_goals
    try (have q0:decide ((s[0].toNat:Int)≤90)=false:=by first | (simp;omega) | (simp;done))
    try (have q1:decide ((s[0].toNat:Int)≤122)=false:=by first | (simp;omega) | (simp;done))
    try (have q2:decide ((s[0].toNat:Int)≤57)=false:=by first | (simp;omega) | (simp;done))
    try (have q3:((s[0].toNat:Int) != 45)=true:=by first | (simp;omega) | (simp;done))
    try (have q4:((s[0].toNat:Int) == 45)=false:=by first | (simp;omega) | (simp;done))
    try (have q5:decide (97≤(s[0].toNat:Int))=false:=by first | (simp;omega) | (simp;done))
    try (have q6:decide (65≤(s[0].toNat:Int))=false:=by first | (simp;omega) | (simp;done))
    try (have q7:decide (48≤(s[0].toNat:Int))=false:=by first | (simp;omega) | (simp;done))
    try (have q8:decide ((s[0].toNat:Int)≤90)=true:=by first | (simp;omega) | (simp;done))
    try (have q9:decide ((s[0].toNat:Int)≤122)=true:=by first | (simp;omega) | (simp;done))
    try (have q10:decide ((s[0].toNat:Int)≤57)=true:=by first | (simp;omega) | (simp;done))
    go_enter Tryz.func26,Tryz.ntmps26
    go_wp2
    go_loop [3] (fun i=>∃ k:Nat,1≤k∧k≤s.size∧i=.int .i64 k∧okTo s k) (fun i=>s.size-(intOf i).toNat)
    case atStart=>exact⟨1,by omega,by omega,rfl,hok1.out⟩
    case round =>
     obtain⟨k,hk0,hk,rfl,hok2⟩:=hrel
     try clear q0
     try clear q1
     try clear q2
     try clear q3
     try clear q4
     try clear q5
     try clear q6
     try clear q7
     try clear q8
     try clear q9
     try clear q10
     clear ca cb c0
     by_cases hlt:k<s.size
     ·have hb:=byteAt_eq hlt
      have hcl:(97≤(s[k].toNat:Int)∧(s[k].toNat:Int)≤122)∨(65≤(s[k].toNat:Int)∧(s[k].toNat:Int)≤90)∨(48≤(s[k].toNat:Int)∧(s[k].toNat:Int)≤57)∨(s[k].toNat:Int)=45∨(s[k].toNat:Int)<45∨(46≤(s[k].toNat:Int)∧(s[k].toNat:Int)≤47)∨(58≤(s[k].toNat:Int)∧(s[k].toNat:Int)≤64)∨(91≤(s[k].toNat:Int)∧(s[k].toNat:Int)≤96)∨123≤(s[k].toNat:Int):=by omega
      have c0:0≤(s[k].toNat:Int):=by omega
      have hyes:=Lib.hid (fun h:okAt s k=true=>okTo_succ hok2 h)
      have hno:=Lib.hid (fun h:okAt s k=false=>nameB_no hlt h)
      rcases hcl with ⟨ca,cb⟩ | ⟨ca,cb⟩ | ⟨ca,cb⟩ | ca | ca | ⟨ca,cb⟩ | ⟨ca,cb⟩ | ⟨ca,cb⟩ | ca
      all_goals first
       |(have hok:Hid (okTo s (k+1)):=hyes.out (by unfold okAt;rw[hb];simp;omega)
         clear hyes hno hb
         try (have q0:decide ((s[k].toNat:Int)≤90)=false:=by first | (simp;omega) | (simp;done))
         try (have q1:decide ((s[k].toNat:Int)≤122)=false:=by first | (simp;omega) | (simp;done))
         try (have q2:decide ((s[k].toNat:Int)≤57)=false:=by first | (simp;omega) | (simp;done))
         try (have q3:((s[k].toNat:Int) != 45)=true:=by first | (simp;omega) | (simp;done))
         try (have q4:((s[k].toNat:Int) == 45)=false:=by first | (simp;omega) | (simp;done))
         try (have q5:decide (97≤(s[k].toNat:Int))=false:=by first | (simp;omega) | (simp;done))
         try (have q6:decide (65≤(s[k].toNat:Int))=false:=by first | (simp;omega) | (simp;done))
         try (have q7:decide (48≤(s[k].toNat:Int))=false:=by first | (simp;omega) | (simp;done))
         try (have q8:decide ((s[k].toNat:Int)≤90)=true:=by first | (simp;omega) | (simp;done))
         try (have q9:decide ((s[k].toNat:Int)≤122)=true:=by first | (simp;omega) | (simp;done))
         try (have q10:decide ((s[k].toNat:Int)≤57)=true:=by first | (simp;omega) | (simp;done))
         go_wp2
         go_round
         case rel=>exact⟨k+1,by omega,by omega,by go_num,hok.out⟩
         case measure=>simp[intOf];omega)
       |(have hfin:Hid (nameB s=false):=hno.out (by unfold okAt;rw[hb];simp;omega)
         clear hyes hno hb
         try (have q0:decide ((s[k].toNat:Int)≤90)=false:=by first | (simp;omega) | (simp;done))
         try (have q1:decide ((s[k].toNat:Int)≤122)=false:=by first | (simp;omega) | (simp;done))
         try (have q2:decide ((s[k].toNat:Int)≤57)=false:=by first | (simp;omega) | (simp;done))
         try (have q3:((s[k].toNat:Int) != 45)=true:=by first | (simp;omega) | (simp;done))
         try (have q4:((s[k].toNat:Int) == 45)=false:=by first | (simp;omega) | (simp;done))
         try (have q5:decide (97≤(s[k].toNat:Int))=false:=by first | (simp;omega) | (simp;done))
         try (have q6:decide (65≤(s[k].toNat:Int))=false:=by first | (simp;omega) | (simp;done))
         try (have q7:decide (48≤(s[k].toNat:Int))=false:=by first | (simp;omega) | (simp;done))
         try (have q8:decide ((s[k].toNat:Int)≤90)=true:=by first | (simp;omega) | (simp;done))
         try (have q9:decide ((s[k].toNat:Int)≤122)=true:=by first | (simp;omega) | (simp;done))
         try (have q10:decide ((s[k].toNat:Int)≤57)=true:=by first | (simp;omega) | (simp;done))
         go_wp2
         go_ret
         exact⟨ret_bool hfin.out.symm,rfl⟩)
     obtain rfl:k=s.size:=by omega
     have hfin:=Lib.hid (nameB_yes h1 h12 hok2)
     go_wp2
     go_ret
     exact⟨ret_bool hfin.out.symm,rfl⟩
  rcases hcl with ⟨ca,cb⟩ | ⟨ca,cb⟩ | ⟨ca,cb⟩ | ca | ca | ⟨ca,cb⟩ | ⟨ca,cb⟩ | ⟨ca,cb⟩ | ca
  all_goals first
   |(have hok:okTo s (0+1):=hyes.out (by unfold okAt;rw[hb0];simp;omega)
     exact hmain hok (by omega))
   |(have hfin:Hid (nameB s=false):=hno.out (by unfold okAt;rw[hb0];simp;omega)
     clear hyes hno hb0 hmain
     try (have q0:decide ((s[0].toNat:Int)≤90)=false:=by first | (simp;omega) | (simp;done))
     try (have q1:decide ((s[0].toNat:Int)≤122)=false:=by first | (simp;omega) | (simp;done))
     try (have q2:decide ((s[0].toNat:Int)≤57)=false:=by first | (simp;omega) | (simp;done))
     try (have q3:((s[0].toNat:Int) != 45)=true:=by first | (simp;omega) | (simp;done))
     try (have q4:((s[0].toNat:Int) == 45)=false:=by first | (simp;omega) | (simp;done))
     try (have q5:decide (97≤(s[0].toNat:Int))=false:=by first | (simp;omega) | (simp;done))
     try (have q6:decide (65≤(s[0].toNat:Int))=false:=by first | (simp;omega) | (simp;done))
     try (have q7:decide (48≤(s[0].toNat:Int))=false:=by first | (simp;omega) | (simp;done))
     try (have q8:decide ((s[0].toNat:Int)≤90)=true:=by first | (simp;omega) | (simp;done))
     try (have q9:decide ((s[0].toNat:Int)≤122)=true:=by first | (simp;omega) | (simp;done))
     try (have q10:decide ((s[0].toNat:Int)≤57)=true:=by first | (simp;omega) | (simp;done))
     go_enter Tryz.func26,Tryz.ntmps26
     go_wp2
     go_ret
     exact⟨ret_bool hfin.out.symm,rfl⟩)
 have hfin:=Lib.hid (nameB_size (s:=s) (by omega))
 go_enter Tryz.func26,Tryz.ntmps26
 go_wp2
 go_ret
 exact⟨ret_bool hfin.out.symm,rfl⟩
end Go.Proofs.YtoojdkaimhlcbaaGreat
namespace Go.Proofs.YtoojdkaimhlcbaaGreat
open Go Go.RowKit
def RowsAt (w:World) (A:Option Addr) (m:Nat) (rows:List (List Value)):Prop :=
 ∀ k r,rows[k]?=some r→∃ b o,A=some ⟨b,o,none⟩∧b<w.heap.size∧∀ j v,r[j]?=some v→w.cell? ⟨b,o+(k*m+j),none⟩=some v
theorem RowsAt.below {w w':World} {A:Option Addr} {m:Nat} {rows:List (List Value)} (h:RowsAt w A m rows) (hb:Below w.heap.size w w'):RowsAt w' A m rows:=fun k r hr=>by
 obtain⟨b,o,hA,hlt,hc⟩:=h k r hr
 exact⟨b,o,hA,Nat.lt_of_lt_of_le hlt hb.size,fun j v hv=>(hb.cell (p:=⟨b,o+(k*m+j),none⟩) hlt).trans (hc j v hv)⟩
theorem RowsAt.nil (w:World) (A:Option Addr) (m:Nat):RowsAt w A m []:=fun k r hr=>by simp at hr
structure Hol where
 name:ByteArray
 kind:Int
 month:Int
 day:Int
 weekday:Int
end Go.Proofs.YtoojdkaimhlcbaaGreat
namespace Go.Proofs.YtoojdkaimhlcbaaGreat
open Go Go.RowKit Go.Maps Go.WideMaps Go.ChangeMaps
def setAt {κ:Type} [DecidableEq κ] (f:κ→Option Value) (x0:κ) (v:Value):κ→Option Value:=fun x=>if x=x0 then some v else f x
theorem setAt_same {κ:Type} [DecidableEq κ] (f:κ→Option Value) (x:κ) (v:Value):setAt f x v x=some v:=by simp[setAt]
theorem setAt_other {κ:Type} [DecidableEq κ] (f:κ→Option Value) {x0 x:κ} (v:Value) (h:x≠x0):setAt f x0 v x=f x:=by simp[setAt,h]
def heldR (v:Value):Option (DataW Value × List MemPlace):=some (.held v,[])
def MapIs {κ:Type} (P:Program) (k:TypeId) (lit:κ→Lit) (w:World) (b n:Nat) (f:κ→Option Value):Prop :=
 ∃ D:DataW Value,w.ownsMap P k heldR b n D∧∀ x,WideAt.IsKeyLit (lit x)→Maps.has D (lit x)=(f x).isSome∧∀ z,D.atKey (lit x) (.held z)=.held ((f x).getD z)
variable {P : Program} {k : TypeId} {w : World} {b n : Nat} {κ : Type} {lit : κ → Lit} {f : κ → Option Value}
theorem MapIs.made (P:Program) (k:TypeId) (lit:κ→Lit) (w:World):MapIs P k lit (w.alloc (.map #[] 0)) w.heap.size 0 (fun _=>none) :=
 ⟨.map [],World.ownsMap_made w P k heldR,fun _ _=>⟨rfl,fun _=>rfl⟩⟩
theorem MapIs.same {w':World} (h:MapIs P k lit w b n f) (hb:w'.heap[b]?=w.heap[b]?):MapIs P k lit w' b n f:=by
 obtain⟨D,⟨es,clock,h1,h2⟩,hf⟩:=h
 exact⟨D,⟨es,clock,hb.trans h1,h2⟩,hf⟩
theorem MapIs.below {w':World} {B:Nat} (h:MapIs P k lit w b n f) (hb:Below B w w') (hlt:b<B):MapIs P k lit w' b n f:=h.same (hb.block b hlt)
theorem MapIs.look {t e:TypeId} (h:MapIs P k lit w b n f) (K:Keyed P k) (ht:P.underlying t=some (.map k e)) {z:Value} (hz:(zeroValue e).run P w=.ok z w) {key:Value} {kl:κ} (hkey:keyOf P k key=some (lit kl)) :
  (Instr.lookup t (.map (some b)) key false).run P w=.ok ((f kl).getD z) w:=by
 obtain⟨D,h,hf⟩:=h
 obtain⟨v,ps,hrun,hv⟩:=h.lookup K ht hz (zd:=.held z) (zp:=[]) rfl hkey
 obtain⟨_,h2⟩:=hf kl (K.key hkey)
 rw[h2 z] at hv
 simp only[heldR,Option.some.injEq,Prod.mk.injEq,DataW.held.injEq] at hv
 rw[hrun,hv.1]
theorem MapIs.store [DecidableEq κ] (hinj:∀ x y,lit x=lit y→x=y) {t e:TypeId} (h:MapIs P k lit w b n f) (K:Keyed P k) (ht:P.underlying t=some (.map k e)) (hn:n<maxLen) {key val:Value} {kl:κ} (hkey:keyOf P k key=some (lit kl)) :
  ∃ w',(Instr.mapUpdate t (.map (some b)) key val).run P w=.ok () w'∧MapIs P k lit w' b (n+1) (setAt f kl val)∧w.grownBy w' (some b)∧w'.heap.size=w.heap.size:=by
 obtain⟨D,h,hf⟩:=h
 have hm:=h.isMap
 obtain⟨w',hrun,h1,h2⟩:=h.store K ht hn hkey (val:=val) (d:=.held val) (ps:=[]) rfl
 refine⟨w',hrun,⟨D.put (lit kl) (.held val),h1,fun x hx=>?_⟩,h2.grown,?_⟩
 ·by_cases he:x=kl
  ·subst he
   rw[setAt_same]
   exact⟨by rw[has_put_same hm hx];rfl,fun z=>by rw[atKey_put_same hm hx];rfl⟩
  rw[setAt_other _ _ he]
  obtain⟨a1,a2⟩:=hf x hx
  exact⟨by rw[has_put_other (fun e=>he (hinj _ _ e))];exact a1,fun z=>by rw[atKey_put_other (fun e=>he (hinj _ _ e))];exact a2 z⟩
 obtain⟨es,c,es',c',_,rfl⟩:=h2
 simp[setBlock]
end Go.Proofs.YtoojdkaimhlcbaaGreat
namespace Go.Proofs.YtoojdkaimhlcbaaGreat
open Go Go.RowKit Go.Maps Go.WideMaps
theorem boolZero (w:World):(zeroValue 4).run Tryz.prog w=.ok (.bool false) w:=by kernel_rfl
end Go.Proofs.YtoojdkaimhlcbaaGreat
namespace Go.Proofs
open Go.Shelf
def Tryz.lays125_ren:Go.Shelf.Ren:=⟨fun | 125=>63 | 128=>89 | 129=>90 | n=>n,fun | 46=>117 | 3=>3 | 51=>145 | 53=>147 | 4=>4 | 5=>5 | 9=>9 | n=>n,fun | n=>n⟩
theorem Tryz.lays125:Go.Proofs.Lays.n125 Tryz.prog Tryz.lays125_ren:={
 mixed:=by kernel_rfl
 f125:=Tryz.func63.trans (congrArg some (by kernel_rfl))
 f128:=Tryz.func89.trans (congrArg some (by kernel_rfl))
 f129:=Tryz.func90.trans (congrArg some (by kernel_rfl))
 t3:=Tryz.underlying3
 a3:=Tryz.isAgg3
 z3:=Tryz.sizeOf3
 v3:=Tryz.zeroValue3
 t4:=Tryz.underlying4
 a4:=Tryz.isAgg4
 z4:=Tryz.sizeOf4
 v4:=Tryz.zeroValue4
 t5:=Tryz.underlying5
 a5:=Tryz.isAgg5
 z5:=Tryz.sizeOf5
 v5:=Tryz.zeroValue5
 t9:=Tryz.underlying9
 a9:=Tryz.isAgg9
 z9:=Tryz.sizeOf9
 v9:=Tryz.zeroValue9
 t46:=Tryz.underlying117
 a46:=Tryz.isAgg117
 z46:=Tryz.sizeOf117
 v46:=Tryz.zeroValue117
 t51:=Tryz.underlying145
 a51:=Tryz.isAgg145
 z51:=Tryz.sizeOf145
 v51:=Tryz.zeroValue145
 t53:=Tryz.underlying147
 a53:=Tryz.isAgg147
 z53:=Tryz.sizeOf147
 v53:=Tryz.zeroValue147 }
theorem Tryz.bits_Len (x:Int) (w:World) (h0:0≤x) (h1:x≤18446744073709551615) :
  Calls Tryz.prog 63 #[.int .u64 x] w fun e w'=>e=.returned (.int .i64 (Lib.bitLen x.toNat))∧w'=w:=Any.bits_Len Tryz.lays125 x w h0 h1
def Tryz.lays122_ren:Go.Shelf.Ren:=⟨fun | 122=>95 | 215=>102 | n=>n,fun | 3=>3 | 4=>4 | n=>n,fun | n=>n⟩
theorem Tryz.lays122:Go.Proofs.Lays.n122 Tryz.prog Tryz.lays122_ren:={
 mixed:=by kernel_rfl
 f122:=Tryz.func95.trans (congrArg some (by kernel_rfl))
 f215:=Tryz.func102.trans (congrArg some (by kernel_rfl))
 t3:=Tryz.underlying3
 a3:=Tryz.isAgg3
 z3:=Tryz.sizeOf3
 v3:=Tryz.zeroValue3
 t4:=Tryz.underlying4
 a4:=Tryz.isAgg4
 z4:=Tryz.sizeOf4
 v4:=Tryz.zeroValue4 }
open Go.RowKit in
theorem Tryz.cmp_Compare_int (x y:Int) (w:World) :
  Calls Tryz.prog 95 #[.int .i64 x,.int .i64 y] w fun e w'=>e=.returned (.int .i64 (Lib.compareInt x y))∧w'=w:=Any.cmp_Compare_int Tryz.lays122 x y w
def Tryz.lays190_ren:Go.Shelf.Ren:=⟨fun | 190=>49 | 125=>63 | 258=>62 | 128=>89 | 129=>90 | 302=>81 | 303=>82 | 304=>83 | 305=>84 | 306=>85 | 307=>86 | 308=>44 | 309=>87 | 310=>88 | 333=>96 | 329=>97 | 330=>98 | 334=>99 | 335=>100 | 336=>59 | 344=>103 | n=>n,fun | 31=>23 | 9=>9 | 3=>3 | 46=>117 | 0=>0 | 51=>145 | 53=>147 | 4=>4 | 183=>138 | 182=>137 | 131=>142 | 5=>5 | 218=>150 | 222=>154 | 228=>157 | 229=>31 | n=>n,fun | n=>n⟩
theorem Tryz.lays190:Go.Proofs.Lays.n190 Tryz.prog Tryz.lays190_ren:={
 mixed:=by kernel_rfl
 f125:=Tryz.func63.trans (congrArg some (by kernel_rfl))
 f128:=Tryz.func89.trans (congrArg some (by kernel_rfl))
 f129:=Tryz.func90.trans (congrArg some (by kernel_rfl))
 f190:=Tryz.func49.trans (congrArg some (by kernel_rfl))
 f258:=Tryz.func62.trans (congrArg some (by kernel_rfl))
 f302:=Tryz.func81.trans (congrArg some (by kernel_rfl))
 f303:=Tryz.func82.trans (congrArg some (by kernel_rfl))
 f304:=Tryz.func83.trans (congrArg some (by kernel_rfl))
 f305:=Tryz.func84.trans (congrArg some (by kernel_rfl))
 f306:=Tryz.func85.trans (congrArg some (by kernel_rfl))
 f307:=Tryz.func86.trans (congrArg some (by kernel_rfl))
 f308:=Tryz.func44.trans (congrArg some (by kernel_rfl))
 f309:=Tryz.func87.trans (congrArg some (by kernel_rfl))
 f310:=Tryz.func88.trans (congrArg some (by kernel_rfl))
 f329:=Tryz.func97.trans (congrArg some (by kernel_rfl))
 f330:=Tryz.func98.trans (congrArg some (by kernel_rfl))
 f333:=Tryz.func96.trans (congrArg some (by kernel_rfl))
 f334:=Tryz.func99.trans (congrArg some (by kernel_rfl))
 f335:=Tryz.func100.trans (congrArg some (by kernel_rfl))
 f336:=Tryz.func59.trans (congrArg some (by kernel_rfl))
 f344:=Tryz.func103.trans (congrArg some (by kernel_rfl))
 t0:=Tryz.underlying0
 a0:=Tryz.isAgg0
 z0:=Tryz.sizeOf0
 v0:=Tryz.zeroValue0
 t3:=Tryz.underlying3
 a3:=Tryz.isAgg3
 z3:=Tryz.sizeOf3
 v3:=Tryz.zeroValue3
 t4:=Tryz.underlying4
 a4:=Tryz.isAgg4
 z4:=Tryz.sizeOf4
 v4:=Tryz.zeroValue4
 t5:=Tryz.underlying5
 a5:=Tryz.isAgg5
 z5:=Tryz.sizeOf5
 v5:=Tryz.zeroValue5
 t9:=Tryz.underlying9
 a9:=Tryz.isAgg9
 z9:=Tryz.sizeOf9
 v9:=Tryz.zeroValue9
 t31:=Tryz.underlying23
 a31:=Tryz.isAgg23
 z31:=Tryz.sizeOf23
 v31:=Tryz.zeroValue23
 t46:=Tryz.underlying117
 a46:=Tryz.isAgg117
 z46:=Tryz.sizeOf117
 v46:=Tryz.zeroValue117
 t51:=Tryz.underlying145
 a51:=Tryz.isAgg145
 z51:=Tryz.sizeOf145
 v51:=Tryz.zeroValue145
 t53:=Tryz.underlying147
 a53:=Tryz.isAgg147
 z53:=Tryz.sizeOf147
 v53:=Tryz.zeroValue147
 t131:=Tryz.underlying142
 a131:=Tryz.isAgg142
 z131:=Tryz.sizeOf142
 v131:=Tryz.zeroValue142
 t182:=Tryz.underlying137
 a182:=Tryz.isAgg137
 z182:=Tryz.sizeOf137
 v182:=Tryz.zeroValue137
 t183:=Tryz.underlying138
 a183:=Tryz.isAgg138
 z183:=Tryz.sizeOf138
 v183:=Tryz.zeroValue138
 t218:=Tryz.underlying150
 a218:=Tryz.isAgg150
 z218:=Tryz.sizeOf150
 v218:=Tryz.zeroValue150
 t222:=Tryz.underlying154
 a222:=Tryz.isAgg154
 z222:=Tryz.sizeOf154
 v222:=Tryz.zeroValue154
 t228:=Tryz.underlying157
 a228:=Tryz.isAgg157
 z228:=Tryz.sizeOf157
 v228:=Tryz.zeroValue157
 t229:=Tryz.underlying31
 a229:=Tryz.isAgg31
 z229:=Tryz.sizeOf31
 v229:=Tryz.zeroValue31 }
open Go.Sort Go.RowKit in
theorem Tryz.slices_Sort_string (blk off cap:Nat) (ss:List (List UInt8)) (w:World) (hH:Holds encStr w blk off ss.toArray) (hblk:blk<w.heap.size) (hsz:ss.length<4611686018427387904) :
  Calls Tryz.prog 49 #[.slice (some ⟨blk,off,none⟩) ss.length cap] w fun e w' =>
   e=.returned (.tuple #[])∧∃ n os,w'=grow (putRow encStr (Sort.ahead w n) blk off (ss.mergeSort fun x y=>decide (x≤y)).toArray) os:=Any.slices_Sort_string Tryz.lays190 blk off cap ss w hH hblk hsz
def Tryz.lays194_ren:Go.Shelf.Ren:=⟨fun | 194=>23 | n=>n,fun | 31=>23 | 9=>9 | 3=>3 | 4=>4 | 0=>0 | n=>n,fun | n=>n⟩
theorem Tryz.lays194:Go.Proofs.Lays.n194 Tryz.prog Tryz.lays194_ren:={
 mixed:=by kernel_rfl
 f194:=Tryz.func23.trans (congrArg some (by kernel_rfl))
 t0:=Tryz.underlying0
 a0:=Tryz.isAgg0
 z0:=Tryz.sizeOf0
 v0:=Tryz.zeroValue0
 t3:=Tryz.underlying3
 a3:=Tryz.isAgg3
 z3:=Tryz.sizeOf3
 v3:=Tryz.zeroValue3
 t4:=Tryz.underlying4
 a4:=Tryz.isAgg4
 z4:=Tryz.sizeOf4
 v4:=Tryz.zeroValue4
 t9:=Tryz.underlying9
 a9:=Tryz.isAgg9
 z9:=Tryz.sizeOf9
 v9:=Tryz.zeroValue9
 t31:=Tryz.underlying23
 a31:=Tryz.isAgg23
 z31:=Tryz.sizeOf23
 v31:=Tryz.zeroValue23 }
open Go.RowKit Go.Lib Go.Sort in
theorem Tryz.slices_Compact_string (blk off cap:Nat) (zs:List (List UInt8)) (w:World) (hH:Holds encStr w blk off zs.toArray) (hsz:zs.length≤9223372036854775807) (hcap:zs.length≤cap) :
  Calls Tryz.prog 23 #[.slice (some ⟨blk,off,none⟩) zs.length cap] w fun e w'=>e=.returned (.slice (some ⟨blk,off,none⟩) (Lib.compact zs).length cap)∧∃ q,w'=putRow encStr (Sort.ahead w q) blk off (Lib.compact zs ++ List.replicate (zs.length-(Lib.compact zs).length) []).toArray:=Any.slices_Compact_string Tryz.lays194 blk off cap zs w hH hsz hcap
open Go.RowKit Go.Lib Go.Sort in
theorem Tryz.slices_Compact_string_empty (a:Option Addr) (cap:Nat) (w:World) :
  Calls Tryz.prog 23 #[.slice a 0 cap] w fun e w'=>e=.returned (.slice a 0 cap)∧w'=w:=Any.slices_Compact_string_empty Tryz.lays194 a cap w
open Go.RowKit Go.Sort in
theorem Tryz.slices_Sort_string_none (p:Option Addr) (cap:Nat) (w:World) :
  Calls Tryz.prog 49 #[.slice p 0 cap] w fun e w'=>e=.returned (.tuple #[])∧w'=w:=Any.slices_Sort_string_none Tryz.lays190 p cap w
end Go.Proofs
namespace Go.Proofs.YtoojdkaimhlcbaaGreat
open Go Go.RowKit
def intRows (ns:List Int):List (List Value):=ns.map fun n=>[.int .i64 n]
end Go.Proofs.YtoojdkaimhlcbaaGreat
namespace Go.Proofs.YtoojdkaimhlcbaaGreat
open Go Go.RowKit
theorem flat_get {m:Nat}:∀ {rows:List (List Value)} {k j:Nat} {r:List Value} {v:Value},(∀ r∈rows,r.length=m)→rows[k]?=some r→r[j]?=some v→rows.flatten[k*m+j]?=some v
 | [],k,_,_,_,_,h,_=>by simp at h
 | q :: rows,0,j,r,v,hw,h,hv=>by
  simp only[List.getElem?_cons_zero,Option.some.injEq] at h
  subst h
  rw[List.flatten_cons,Nat.zero_mul,Nat.zero_add,List.getElem?_append_left (List.getElem?_eq_some_iff.1 hv).1,hv]
 | q :: rows,k+1,j,r,v,hw,h,hv=>by
  simp only[List.getElem?_cons_succ] at h
  have hq:=hw q (List.mem_cons_self ..)
  have ih:=flat_get (fun r hr=>hw r (List.mem_cons_of_mem _ hr)) h hv
  rw[List.flatten_cons,List.getElem?_append_right (by rw[hq,Nat.succ_mul];omega),hq,show (k+1)*m+j-m=k*m+j by rw[Nat.succ_mul];omega,ih]
theorem flat_len {m:Nat}:∀ {rows:List (List Value)},(∀ r∈rows,r.length=m)→rows.flatten.length=rows.length*m
 | [],_=>by simp
 | q :: rows,hw=>by
  rw[List.flatten_cons,List.length_append,hw q (List.mem_cons_self ..),flat_len (fun r hr=>hw r (List.mem_cons_of_mem _ hr)),List.length_cons,Nat.succ_mul];omega
theorem flat_of {m:Nat} (hm:0<m) {rows:List (List Value)} (hw:∀ r∈rows,r.length=m) {i:Nat} {v:Value} (h:rows.flatten[i]?=some v):∃ r,rows[i / m]?=some r∧r[i % m]?=some v:=by
 have hl:=(List.getElem?_eq_some_iff.1 h).1
 rw[flat_len hw] at hl
 have hk:i / m<rows.length:=Nat.div_lt_of_lt_mul (by rw[Nat.mul_comm];exact hl)
 have hr:=List.getElem?_eq_getElem hk
 have hlen:=hw _ (List.getElem_mem hk)
 have hj:i % m<rows[i / m].length:=by rw[hlen];exact Nat.mod_lt _ hm
 refine⟨_,hr,?_⟩
 have h2:=flat_get hw hr (List.getElem?_eq_getElem hj)
 rw[Nat.mul_comm,Nat.div_add_mod] at h2
 rw[List.getElem?_eq_getElem hj,←h2,h]
structure OwnL (w:World) (B:Nat) (E:TypeId) (m:Nat) (v:Value) (rows:List (List Value)):Prop where
 own:w.ownsRow B E m v rows.length rows.flatten
 wid:∀ r∈rows,r.length=m
 one:∀ r∈rows,∀ u∈r,u.oneCell'=true
theorem addr_add (g j:Nat) (o:Nat):(⟨g,o,none⟩:Addr).add j=⟨g,o+j,none⟩:=by unfold Addr.add;split <;> simp_all
theorem OwnL.form {w:World} {B:Nat} {E:TypeId} {m:Nat} {v:Value} {rows:List (List Value)} (h:OwnL w B E m v rows):∃ A c,v=.slice A rows.length c∧RowsAt w A m rows:=by
 obtain⟨hown,hw,_⟩:=h
 have hc:=fun g (hg:v.ownBlock=some g)=>hown.cells hg
 rcases hown.2 with ⟨rfl,h0⟩ | ⟨g,cap,cur,rfl,_,hg,_⟩
 ·exact⟨none,0,by rw[h0],fun k r hr=>by rw[List.eq_nil_of_length_eq_zero h0] at hr;simp at hr⟩
 refine⟨_,_,rfl,fun k r hr=>⟨g,0,rfl,(Array.getElem?_eq_some_iff.1 hg).1,fun j u hu=>?_⟩⟩
 have:=hc g rfl _ u (flat_get hw hr hu)
 rw[addr_add] at this
 exact this
theorem OwnL.nil (w:World) (B:Nat) (E:TypeId) (m:Nat):OwnL w B E m (.slice none 0 0) []:=⟨World.ownsRow_nil w B E m,fun r h=>(by simp at h),fun r h=>(by simp at h)⟩
theorem OwnL.made (w:World) (B:Nat) (E:TypeId) (m:Nat) (hb:B≤w.heap.size):OwnL (w.alloc (.cells #[] E)) B E m (.slice (some ⟨w.heap.size,0,none⟩) 0 0) [] :=
 ⟨World.ownsRow_made w #[] 0 hb (Nat.zero_le _) (by simp),fun r h=>(by simp at h),fun r h=>(by simp at h)⟩
theorem OwnL.less {w:World} {B B':Nat} {E:TypeId} {m:Nat} {v:Value} {rows:List (List Value)} (h:OwnL w B E m v rows) (hB:B'≤B):OwnL w B' E m v rows:=by
 refine⟨⟨h.own.1,?_⟩,h.wid,h.one⟩
 rcases h.own.2 with h | ⟨g,cap,cur,h1,h2,h3⟩
 ·exact .inl h
 exact .inr ⟨g,cap,cur,h1,by omega,h3⟩
theorem OwnL.kept {w w':World} {row:Option Nat} {B:Nat} {E:TypeId} {m:Nat} {v:Value} {rows:List (List Value)} (h:OwnL w B E m v rows) (hg:w.grownBy w' row) (hne:v.ownBlock=none∨v.ownBlock≠row):OwnL w' B E m v rows :=
 ⟨h.own.kept hg hne,h.wid,h.one⟩
theorem OwnL.below {w w':World} {B:Nat} {E:TypeId} {m:Nat} {v:Value} {rows:List (List Value)} (h:OwnL w B E m v rows) (hb:Below w.heap.size w w'):OwnL w' B E m v rows :=
 h.kept (row:=none) ⟨hb.os,hb.tape,hb.output,hb.size,fun i hi _=>hb.block i hi⟩ (by cases v.ownBlock <;> simp)
theorem OwnL.lt {w:World} {B:Nat} {E:TypeId} {m:Nat} {v:Value} {rows:List (List Value)} (h:OwnL w B E m v rows):∀ g,v.ownBlock=some g→B≤g∧g<w.heap.size:=h.own.lt
structure Elem (P:Program) (t e:TypeId) (m bytes:Nat):Prop where
 und:P.underlying t=some (.slice e)
 info:∃ i z,P.info? e=some i∧i.zero=some z∧i.size=m∧i.bytes=bytes∧z.cells.size=m
 pos:0<m
theorem Elem.mk' {P:Program} {t e:TypeId} {m bytes:Nat} {z:Value} (hu:P.underlying t=some (.slice e)) (h:(P.info? e).map (fun i=>(i.zero,i.size,i.bytes))=some (some z,m,bytes)) (hz:z.cells.size=m) (hm:0<m):Elem P t e m bytes:=by
 obtain⟨i,hi,h1,h2,h3⟩:=info_parts h
 exact⟨hu,⟨i,z,hi,h1,h2,h3,hz⟩,hm⟩
theorem run_append_none_any {P:Program} {w:World} (base:Nat) (t ty e:TypeId) (i:TypeInfo) (size c:Nat) (ht:P.underlying t=some (.slice e)) (hi:P.info? e=some i)
  (v:Value) (n:Nat) (xs:List Value) (hown:w.ownsRow base e size v n xs) :
  (Builtin.append_ #[t,t] ty #[v,.slice none 0 c]).run P w=.ok v w:=by
 rcases hown.2 with ⟨rfl,rfl⟩ | ⟨g,cap,cur,rfl,_,_,hnc,_⟩
 ·simp[Builtin.append_,run_underlying ht,sizeOf,typeInfo,hi,Builtin.lenOf,Builtin.firstCells]
 simp[Builtin.append_,run_underlying ht,sizeOf,typeInfo,hi,Builtin.lenOf,Builtin.firstCells,hnc,storeCells]
theorem run_append_rows {P:Program} {t e:TypeId} {m bytes:Nat} (el:Elem P t e m bytes) (ty:TypeId) {w:World} {B:Nat} {v:Value} {rows:List (List Value)} (h:OwnL w B e m v rows)
  {A:Option Addr} {n c:Nat} {rows2:List (List Value)} (h2:RowsAt w A m rows2) (hn:n=rows2.length) (hw:∀ r∈rows2,r.length=m) (h1:∀ r∈rows2,∀ u∈r,u.oneCell'=true)
  (h63:rows.length+rows2.length≤4000000000) (hby:bytes≤10000) (hbase:B≤w.heap.size) :
  ∃ v' w',(Builtin.append_ #[t,t] ty #[v,.slice A n c]).run P w=.ok v' w'∧OwnL w' B e m v' (rows ++ rows2)∧w.grownBy w' v.ownBlock∧(v'.ownBlock=v.ownBlock∨v'.ownBlock=some w.heap.size):=by
 subst hn
 obtain⟨i,z,hi,hz,hsize,hb,hzs⟩:=el.info
 have hwid:∀ r∈rows ++ rows2,r.length=m:=fun r hr=>by rcases List.mem_append.1 hr with h' | h';exact h.wid r h';exact hw r h'
 have hone:∀ r∈rows ++ rows2,∀ u∈r,u.oneCell'=true:=fun r hr=>by rcases List.mem_append.1 hr with h' | h';exact h.one r h';exact h1 r h'
 have hml:4000000000*10000≤140737488355328:=by decide
 have hbb:(rows.length+rows2.length)*bytes≤140737488355328:=Nat.le_trans (Nat.mul_le_mul h63 hby) hml
 cases A with
 | none =>
  have h0:rows2=[]:=by
   cases rows2 with
   | nil=>rfl
   | cons q r=>obtain⟨b,o,hA,_⟩:=h2 0 q rfl;cases hA
  subst h0
  refine⟨v,w,run_append_none_any (P:=P) (w:=w) B t ty e i m c el.und hi v _ _ h.own,?_,⟨rfl,rfl,rfl,Nat.le_refl _,fun _ _ _=>rfl⟩,.inl rfl⟩
  rw[List.append_nil];exact h
 | some ad =>
  have hlen2:rows2.flatten.length=rows2.length*m:=flat_len hw
  have hnews:∀ j u,rows2.flatten[j]?=some u→w.cell? (ad.add j)=some u:=fun j u hu=>by
   obtain⟨r,hr,hru⟩:=flat_of el.pos hw hu
   obtain⟨b,o,hA,_,hc⟩:=h2 _ r hr
   cases hA
   have:=hc _ u hru
   rw[addr_add,←this]
   rw[show j / m*m+j % m=j by rw[Nat.mul_comm];exact Nat.div_add_mod ..]
  have hon:∀ u∈rows2.flatten,u.oneCell'=true:=fun u hu=>by obtain⟨r,hr,hur⟩:=List.mem_flatten.1 hu;exact h1 r hr u hur
  obtain⟨v',w',hr,ho,hg,_,hob⟩:=run_append_own_at (P:=P) w B t ty e i z m bytes el.und hi hz hsize hb hzs el.pos v rows.length rows.flatten h.own ad rows2.length c rows2.flatten hlen2 hnews hon (by unfold maxLen;omega) hbb hbase
  refine⟨v',w',hr,⟨?_,hwid,hone⟩,hg,hob⟩
  rw[List.length_append,List.flatten_append];exact ho
theorem wp_of_append {P:Program} {w w':World} {o:Oper} {a:Act} {K:Act→World→Prop} {Q:Exit→Act→World→Prop} (s x:Operand) (t:TypeId)
  (ho:o.op=.call { callee:=.builtin .append,args:=#[s,x],argTypes:=#[t,t] }) {v u v':Value} (hs:a.eval s=v) (hx:a.eval x=u)
  (hr:(Builtin.append_ #[t,t] o.type #[v,u]).run P w=.ok v' w') (h:K (a.put o.dst v') w'):o.wp P a w K Q:=by
 unfold Oper.wp execOp
 simp only[ho,resolve,invoke,builtin,Sem.run_bind,Sem.run_pure,Result.andThen_ok,List.map_toArray,List.map_cons,List.map_nil,hs,hx,hr]
 exact h
theorem wpList_append_rows {P:Program} {t e:TypeId} {m bytes:Nat} (el:Elem P t e m bytes) {w:World} {ops:Array Oper} {rest:List Oper} {o:Oper} {a:Act} {Q:Exit→Act→World→Prop} (hgd:o.guard=none) (s x:Operand)
  (ho:o.op=.call { callee:=.builtin .append,args:=#[s,x],argTypes:=#[t,t] }) {v:Value} {A:Option Addr} {n c:Nat} (hs:a.eval s=v) (hx:a.eval x=.slice A n c)
  {B:Nat} {rows:List (List Value)} (h:OwnL w B e m v rows) {rows2:List (List Value)} (h2:RowsAt w A m rows2) (hn:n=rows2.length) (hw:∀ r∈rows2,r.length=m) (h1:∀ r∈rows2,∀ u∈r,u.oneCell'=true)
  (h63:rows.length+rows2.length≤4000000000) (hby:bytes≤10000) (hbase:B≤w.heap.size)
  (hK:∀ v' w',OwnL w' B e m v' (rows ++ rows2)→w.grownBy w' v.ownBlock→(v'.ownBlock=v.ownBlock∨v'.ownBlock=some w.heap.size)→wpList P ops Q rest (a.put o.dst v') w'):wpList P ops Q (o :: rest) a w :=
 wpList_plain hgd fun _ hK'=>by
  obtain⟨v',w',hr,h3,h4,h5⟩:=run_append_rows el o.type h h2 hn hw h1 h63 hby hbase
  exact wp_of_append s x t ho hs hx hr (hK' _ _ (hK v' w' h3 h4 h5))
theorem step_append_rows {P:Program} {t e:TypeId} {m bytes:Nat} (el:Elem P t e m bytes) {w:World} {ops:Array Oper} {o:Oper} {a:Act} {K:Act→World→Prop} {Q:Exit→Act→World→Prop} {E:Prop} (hgd:o.guard=none) (s x:Operand)
  (ho:o.op=.call { callee:=.builtin .append,args:=#[s,x],argTypes:=#[t,t] }) {v:Value} {A:Option Addr} {n c:Nat} (hs:a.eval s=v) (hx:a.eval x=.slice A n c)
  {B:Nat} {rows:List (List Value)} (h:OwnL w B e m v rows) {rows2:List (List Value)} (h2:RowsAt w A m rows2) (hn:n=rows2.length) (hw:∀ r∈rows2,r.length=m) (h1:∀ r∈rows2,∀ u∈r,u.oneCell'=true)
  (h63:rows.length+rows2.length≤4000000000) (hby:bytes≤10000) (hbase:B≤w.heap.size)
  (hK:∀ v' w',OwnL w' B e m v' (rows ++ rows2)→w.grownBy w' v.ownBlock→(v'.ownBlock=v.ownBlock∨v'.ownBlock=some w.heap.size)→K (a.put o.dst v') w'):if Region.wanted o (yielded ops a.tmps)=true then Oper.wp P o a w K Q else E:=by
 have hwt:Region.wanted o (yielded ops a.tmps)=true:=by simp[Region.wanted,hgd]
 rw[if_pos hwt]
 obtain⟨v',w',hr,h3,h4,h5⟩:=run_append_rows el o.type h h2 hn hw h1 h63 hby hbase
 exact wp_of_append s x t ho hs hx hr (hK v' w' h3 h4 h5)
theorem rowsAt_new (w:World) (r:List Value) (t:TypeId):RowsAt (w.alloc (.cells r.toArray t)) (some ⟨w.heap.size,0,none⟩) r.length [r]:=fun k q hq=>by
 match k,hq with
 | 0,hq =>
  simp only[List.getElem?_cons_zero,Option.some.injEq] at hq
  subst hq
  refine⟨w.heap.size,0,rfl,by simp,fun j v hv=>?_⟩
  rw[cell_of_row _ _ _ r.toArray t (0,0) (heap_alloc_new w _)]
  simpa using hv
theorem grown_below {w w':World} {B:Nat} {v:Value} (h:w.grownBy w' v.ownBlock) (hB:∀ g,v.ownBlock=some g→B≤g) (hs:B≤w.heap.size):Below B w w' :=
 (Below.refl _ _).grown h hs (fun k e=>hB k e)
end Go.Proofs.YtoojdkaimhlcbaaGreat
namespace Go.Proofs.YtoojdkaimhlcbaaGreat
open Go Go.RowKit Go.Sort
def IntsL (w:World) (B:Nat) (v:Value) (zs:List Int):Prop:=OwnL w B 3 1 v (intRows zs)
theorem intRows_length (zs:List Int):(intRows zs).length=zs.length:=by unfold intRows;simp
theorem intRows_wid (zs:List Int):∀ r∈intRows zs,r.length=1:=fun r hr=>by obtain⟨n,_,rfl⟩:=List.mem_map.1 hr;rfl
theorem intRows_one (zs:List Int):∀ r∈intRows zs,∀ u∈r,u.oneCell'=true:=fun r hr u hu=>by
 obtain⟨n,_,rfl⟩:=List.mem_map.1 hr
 simp only[List.mem_singleton] at hu;subst hu;rfl
theorem intRows_flat (zs:List Int):(intRows zs).flatten=zs.map (Value.int .i64):=by
 induction zs with
 | nil=>rfl
 | cons z zs ih=>unfold intRows at ih ⊢;rw[List.map_cons,List.flatten_cons,ih];rfl
theorem elemInt:Elem Tryz.prog 84 3 1 8:=Elem.mk' Tryz.underlying84 (z:=.int .i64 0) (by kernel_rfl) rfl (by decide)
theorem IntsL.own {w:World} {B:Nat} {v:Value} {zs:List Int} (h:IntsL w B v zs):w.ownsRow B 3 1 v zs.length (zs.map (Value.int .i64)):=by
 have:=OwnL.own h
 rwa [intRows_length,intRows_flat] at this
theorem IntsL.of {w:World} {B:Nat} {v:Value} {zs:List Int} (h:w.ownsRow B 3 1 v zs.length (zs.map (Value.int .i64))):IntsL w B v zs :=
 ⟨by rw[intRows_length,intRows_flat];exact h,intRows_wid zs,intRows_one zs⟩
theorem IntsL.rows {w:World} {B:Nat} {v:Value} {zs:List Int} (h:IntsL w B v zs):∃ A c,v=.slice A zs.length c∧RowsAt w A 1 (intRows zs):=by
 obtain⟨A,c,hv,hr⟩:=OwnL.form h
 exact⟨A,c,by rw[hv,intRows_length],hr⟩
theorem IntsL.below {w w':World} {B:Nat} {v:Value} {zs:List Int} (h:IntsL w B v zs) (hb:Below w.heap.size w w'):IntsL w' B v zs:=OwnL.below h hb
theorem grow_below (w:World) (os:Array Obj):Below w.heap.size w (grow w os):=⟨rfl,rfl,rfl,by simp,fun k hk=>by simp[grow,Array.getElem?_append_left hk]⟩
end Go.Proofs.YtoojdkaimhlcbaaGreat
namespace Go.Proofs.YtoojdkaimhlcbaaGreat
open Go Go.RowKit Go.Shelf
attribute [local go_sem] Oper.semAt_some
def Others (W:World) (row:Option Nat):Prop:=∀ r,row=some r→∃ o:Obj,W.heap[r]?=some o∧o.isCells=false
end Go.Proofs.YtoojdkaimhlcbaaGreat
namespace Go.Proofs.YtoojdkaimhlcbaaGreat
open Go Go.RowKit Go.Shelf
theorem cell_alloc_at (W:World) (cs:Array Value) (t:TypeId) (j:Nat):(W.alloc (.cells cs t)).cell? ⟨W.heap.size,j,none⟩=cs[j]? :=
 cell_of_row _ _ _ cs t (0,0) (World.alloc_heap_new W _)
end Go.Proofs.YtoojdkaimhlcbaaGreat
namespace Go.Proofs.YtoojdkaimhlcbaaGreat
open Go Go.RowKit
structure Per where
 m:Int
 d:Int
 k:Bool
structure Proc where
 runs:Per
 obj:Per
 wait:Per
 exts:Int
 longest:Int
 hols:List Hol
structure NSt where
 phase:Int
 last:Int
 deadline:Int
 object:Int
 objected:Int
 extended:Int
end Go.Proofs.YtoojdkaimhlcbaaGreat
namespace Go.Proofs.YtoojdkaimhlcbaaGreat
open Go Go.RowKit
structure StAt (w:World) (B:Nat) (A:Option Addr) (c:Nat) (p:Proc) (s:NSt):Prop where
 range:w.rangeAt B 0 [.int .i64 p.runs.m,.int .i64 p.runs.d,.bool p.runs.k,.int .i64 p.obj.m,.int .i64 p.obj.d,.bool p.obj.k,.int .i64 p.wait.m,.int .i64 p.wait.d,.bool p.wait.k,.int .i64 p.exts,.int .i64 p.longest,.slice A p.hols.length c,.int .i64 s.phase,.int .i64 s.last,.int .i64 s.deadline,.int .i64 s.object,.int .i64 s.objected,.int .i64 s.extended]
 lt:B<w.heap.size
theorem StAt.c9 {w:World} {B:Nat} {A:Option Addr} {c:Nat} {p:Proc} {s:NSt} (h:StAt w B A c p s):w.cell? ⟨B,9,none⟩=some (.int .i64 p.exts):=h.range 9 _ rfl
end Go.Proofs.YtoojdkaimhlcbaaGreat
namespace Go.Proofs.YtoojdkaimhlcbaaGreat
open Go Go.RowKit
theorem tkH {P:Program} {ops:Array Oper} {Q:Exit→Act→World→Prop} {md:Region.Mode} {S:World→Prop} (i:Nat) {oi:Oper} {v:Value} {fuel:Nat} {listed:Array Bool} {a:Act} {w:World}
  (hy:∀ w,S w→(execOp a.eval oi).run P w=.ok (.value v) w) (h:wpAnyH P md ops Q S fuel (listed.setIfInBounds i true) (a.put oi.dst v) w)
  (hi:ops[i]?=some oi:=by exact rfl) (hs:Region.noSelect ops=true:=by kernel_rfl) (hf:Region.free md ops listed i=true:=by decide +kernel) (hr:(Region.ready md ops listed).contains i=true:=by decide +kernel)
  (hQ:∀ c a w,Q (.panic c) (a.put oi.dst v) w→Q (.panic c) a w:=by exact fun _ _ _ h=>h) (hw:Region.wanted oi (yielded ops a.tmps)=true:=by kernel_rfl) (hS:S w:=by assumption):wpAnyH P md ops Q S (fuel+1) listed a w :=
 wpAnyH_take hi hs hf hr hQ (Or.inl ⟨hw,hy⟩) hS h
theorem ratHx {P:Program} {ops:Array Oper} {Q:Exit→Act→World→Prop} {md:Region.Mode} {S:World→Prop} (i:Nat) {op:Oper} {fuel:Nat} {listed:Array Bool} {a:Act} {w:World}
  (h:∀ K:Act→World→Prop,Shut (∀ a w,S w→(S w→wpAnyH P md ops Q S fuel (listed.setIfInBounds i true) a w)→K a w)→Oper.wp P op a w K Q)
  (ho:ops[i]?=some op:=by exact rfl) (hr:Region.ready md ops listed=[i]:=by decide +kernel) (hw:Region.wanted op (yielded ops a.tmps)=true:=by kernel_rfl):wpAnyH P md ops Q S (fuel+1) listed a w :=
 wpAnyH_ready (rs:=[i]) hr (by simp) (AllReadyH.cons ho (fun K hK=>by rw[if_pos hw];exact h K hK) AllReadyH.nil)
theorem apS (t:Array Value) (df) (d:Nat) (v:Value):Act.put { tmps:=t,defers:=df } (some d) v={ tmps:=t.setIfInBounds d v,defers:=df }:=rfl
theorem apN (a:Act) (v:Value):Act.put a none v=a:=rfl
theorem siA {α:Type _} (l:List α) (i:Nat) (x:α):l.toArray.setIfInBounds i x=(l.set i x).toArray:=List.setIfInBounds_toArray ..
theorem scZ {α:Type _} (x y:α) (l:List α):(x :: l).set 0 y=y :: l:=rfl
theorem scS {α:Type _} (x y:α) (l:List α) (n:Nat):(x :: l).set (n+1) y=x :: l.set n y:=rfl
end Go.Proofs.YtoojdkaimhlcbaaGreat
namespace Go.Proofs.YtoojdkaimhlcbaaGreat
open Go Go.RowKit
theorem below_grown {w w':World} (h:Below w.heap.size w w') (row:Option Nat):w.grownBy w' row:=⟨h.os,h.tape,h.output,h.size,fun i hi _=>h.block i hi⟩
theorem grown_set (w:World) (B o:Nat) (u:Value):w.grownBy (w.setCell ⟨B,o,none⟩ u) (some B) :=
 ⟨by simp[World.setCell],by simp[World.setCell],by simp[World.setCell],by simp,fun k _ hne=>Below.heap_setCell w _ u k (fun e=>hne (by rw[e]))⟩
theorem grown_drewN (w:World) (n:Nat) (row:Option Nat):w.grownBy (w.drewN n) row:=⟨rfl,rfl,rfl,Nat.le_refl _,fun _ _ _=>rfl⟩
theorem below_of_grownB {w0 w w':World} {B:Nat} (h:Below w0.heap.size w0 w) (hg:w.grownBy w' (some B)) (hB:w0.heap.size≤B):Below w0.heap.size w0 w':=h.grown hg h.size (fun k e=>by cases e;exact hB)
end Go.Proofs.YtoojdkaimhlcbaaGreat
namespace Go.Proofs.YtoojdkaimhlcbaaGreat
open Go Go.RowKit
structure BoxAt (w:World) (B:Nat) (cs:List Value):Prop where
 range:w.rangeAt B 0 cs
 free:∀ j,j<cs.length→w.frozen? ⟨B,j,none⟩=false
 lt:B<w.heap.size
theorem BoxAt.there {w:World} {B:Nat} {cs:List Value} (h:BoxAt w B cs):w.there B 0 cs.length:=fun j hj=>⟨h.range.isSome j hj,by rw[Nat.zero_add];exact h.free j hj⟩
theorem BoxAt.grown {w w':World} {row:Option Nat} {B:Nat} {cs:List Value} (h:BoxAt w B cs) (hg:w.grownBy w' row) (hne:some B≠row):BoxAt w' B cs :=
 ⟨fun j v hv=>(World.cell?_of_block (a:=⟨B,0+j,none⟩) (hg.block B h.lt hne)).trans (h.range j v hv),fun j hj=>(World.frozen?_of_block (a:=⟨B,j,none⟩) (hg.block B h.lt hne)).trans (h.free j hj),Nat.lt_of_lt_of_le h.lt hg.size⟩
theorem BoxAt.below {w w':World} {B:Nat} {cs:List Value} (h:BoxAt w B cs) (hb:Below w.heap.size w w'):BoxAt w' B cs:=h.grown (below_grown hb none) (by simp)
theorem BoxAt.alloc {w:World} {B:Nat} {cs:List Value} (h:BoxAt w B cs) (o:Obj):BoxAt (w.alloc o) B cs:=h.below (below_alloc w o)
theorem BoxAt.new (w:World) (cs:Array Value) (t:TypeId):BoxAt (w.alloc (.cells cs t)) w.heap.size cs.toList :=
 ⟨fun j v hv=>by rw[Nat.zero_add,cell_alloc_at,←hv];simp,fun j hj=>by unfold World.frozen?;rw[World.alloc_heap_new];simp,by simp⟩
theorem grown_setCells (B:Nat):∀ (xs:List Value) (o:Nat) (w:World),w.grownBy (w.setCells B o xs) (some B)
 | [],_,w=>World.grownBy.refl w _
 | v :: xs,o,w=>(grown_set w B o v).trans (grown_setCells B xs (o+1) _)
theorem size_setCells (B:Nat):∀ (xs:List Value) (o:Nat) (w:World),(w.setCells B o xs).heap.size=w.heap.size
 | [],_,_=>rfl
 | v :: xs,o,w=>by unfold World.setCells;rw[size_setCells B xs];simp
theorem BoxAt.put {w:World} {B:Nat} {cs:List Value} (h:BoxAt w B cs) (xs:List Value) (hl:xs.length=cs.length):BoxAt (w.setCells B 0 xs) B xs :=
 ⟨World.rangeAt_setCells_same w B 0 xs (by rw[hl];exact h.there),fun j hj=>by rw[World.frozen?_setCells];exact h.free j (by omega),by rw[size_setCells];exact h.lt⟩
theorem BoxAt.set {w:World} {B:Nat} {cs:List Value} (h:BoxAt w B cs) (j:Nat) (v:Value) (hj:j<cs.length):BoxAt (w.setCell ⟨B,j,none⟩ v) B (cs.set j v):=by
 refine⟨fun k u hu=>?_,fun k hk=>by rw[World.frozen?_setCell];exact h.free k (by simpa using hk),by rw[World.size_setCell];exact h.lt⟩
 rw[Nat.zero_add]
 by_cases e:j=k
 ·subst e
  rw[List.getElem?_set_self hj] at hu
  cases hu
  obtain⟨x,hx⟩:∃ x,cs[j]?=some x:=⟨_,List.getElem?_eq_getElem hj⟩
  have:=h.range j x hx
  rw[Nat.zero_add] at this
  exact World.cell?_setCell_same _ _ _ this
 rw[List.getElem?_set_ne e] at hu
 have:=h.range k u hu
 rw[Nat.zero_add] at this
 rw[World.cell?_setCell_other _ _ _ _ (fun x=>e (by injection x))]
 exact this
theorem BoxAt.c {w:World} {B:Nat} {cs:List Value} (h:BoxAt w B cs) (j:Nat) (v:Value) (hv:cs[j]?=some v):w.cell? ⟨B,j,none⟩=some v:=by
 have:=h.range j v hv
 rw[Nat.zero_add] at this
 exact this
theorem BoxAt.c2 {w : World} {B : Nat} {x0 x1 : Value} {l : List Value} (h : BoxAt w B (x0::x1::l)) : w.cell? ⟨B,0,none⟩=some x0 ∧ w.cell? ⟨B,1,none⟩=some x1:=⟨h.c 0 _ rfl,h.c 1 _ rfl⟩
theorem BoxAt.c3 {w : World} {B : Nat} {x0 x1 x2 : Value} {l : List Value} (h : BoxAt w B (x0::x1::x2::l)) : w.cell? ⟨B,0,none⟩=some x0 ∧ w.cell? ⟨B,1,none⟩=some x1 ∧ w.cell? ⟨B,2,none⟩=some x2:=⟨h.c 0 _ rfl,h.c 1 _ rfl,h.c 2 _ rfl⟩
theorem BoxAt.c4 {w : World} {B : Nat} {x0 x1 x2 x3 : Value} {l : List Value} (h : BoxAt w B (x0::x1::x2::x3::l)) : w.cell? ⟨B,0,none⟩=some x0 ∧ w.cell? ⟨B,1,none⟩=some x1 ∧ w.cell? ⟨B,2,none⟩=some x2 ∧ w.cell? ⟨B,3,none⟩=some x3:=⟨h.c 0 _ rfl,h.c 1 _ rfl,h.c 2 _ rfl,h.c 3 _ rfl⟩
theorem BoxAt.fr2 {w : World} {B : Nat} {x0 x1 : Value} {l : List Value} (h : BoxAt w B (x0::x1::l)) : w.frozen? ⟨B,0,none⟩=false ∧ w.frozen? ⟨B,1,none⟩=false:=⟨h.free 0 (by simp),h.free 1 (by simp)⟩
theorem BoxAt.fr3 {w : World} {B : Nat} {x0 x1 x2 : Value} {l : List Value} (h : BoxAt w B (x0::x1::x2::l)) : w.frozen? ⟨B,0,none⟩=false ∧ w.frozen? ⟨B,1,none⟩=false ∧ w.frozen? ⟨B,2,none⟩=false:=⟨h.free 0 (by simp),h.free 1 (by simp),h.free 2 (by simp)⟩
theorem BoxAt.fr4 {w : World} {B : Nat} {x0 x1 x2 x3 : Value} {l : List Value} (h : BoxAt w B (x0::x1::x2::x3::l)) : w.frozen? ⟨B,0,none⟩=false ∧ w.frozen? ⟨B,1,none⟩=false ∧ w.frozen? ⟨B,2,none⟩=false ∧ w.frozen? ⟨B,3,none⟩=false:=⟨h.free 0 (by simp),h.free 1 (by simp),h.free 2 (by simp),h.free 3 (by simp)⟩
section
variable {P : Program}
theorem results_mid2 {fn:Func} {t u:Tmp} {ty:TypeId} (h:fn.results=#[.cell t ty,.tmp u]) (tmps:Array Value) (w:World) (g:Nat) (cs:List Value) (d:TypeDesc)
  (hp:tmps.getD t undef=.pointer (some ⟨g,0,none⟩)) (hc:w.rangeAt g 0 cs) (hu:P.underlying ty=some d) (hd:d.isRow=true) (hi:(P.info? ty).map (·.size)=some cs.length) :
  (results fn tmps).run P w=.ok (.tuple #[.agg cs.toArray,tmps.getD u undef]) w:=by
 have hp':tmps[t]?.getD undef=.pointer (some ⟨g,0,none⟩):=by simpa using hp
 simp[results,h,hp',asAddr,run_loadVar_mid w g 0 ty cs d hc hu hd hi]
theorem results_mid1 {fn:Func} {t:Tmp} {ty:TypeId} (h:fn.results=#[.cell t ty]) (tmps:Array Value) (w:World) (g:Nat) (cs:List Value) (d:TypeDesc)
  (hp:tmps.getD t undef=.pointer (some ⟨g,0,none⟩)) (hc:w.rangeAt g 0 cs) (hu:P.underlying ty=some d) (hd:d.isRow=true) (hi:(P.info? ty).map (·.size)=some cs.length) :
  (results fn tmps).run P w=.ok (.agg cs.toArray) w:=by
 have hp':tmps[t]?.getD undef=.pointer (some ⟨g,0,none⟩):=by simpa using hp
 simp[results,h,hp',asAddr,run_loadVar_mid w g 0 ty cs d hc hu hd hi]
end
end Go.Proofs.YtoojdkaimhlcbaaGreat
namespace Go.Proofs.YtoojdkaimhlcbaaGreat
open Go Go.RowKit Go.Shelf
attribute [local go_sem] Oper.semAt_some
theorem OwnL.keeps {W W':World} {B:Nat} {E:TypeId} {m:Nat} {v:Value} {rows:List (List Value)} (h:OwnL W B E m v rows) (hg:W.grownBy W' v.ownBlock):KeepsOthers W W':=by
 refine KeepsOthers.of_grownBy hg fun j o e ho=>?_
 rcases h.own.2 with ⟨rfl,_⟩ | ⟨g,cap,cur,rfl,_,hh,_⟩
 ·cases e
 cases e
 rw[hh] at ho
 cases ho;rfl
end Go.Proofs.YtoojdkaimhlcbaaGreat
namespace Go.Proofs.YtoojdkaimhlcbaaGreat
open Go Go.RowKit
theorem wpList_store_box {P:Program} {ops:Array Oper} {rest:List Oper} {op:Oper} {a:Act} {w:World} {Q:Exit→Act→World→Prop} (hgd:op.guard=none) (ty:TypeId) (x y:Operand) (ho:op.op=.store ty x y)
  (b:Nat) (cs0 cs:List Value) (hx:a.eval x=.pointer (some ⟨b,0,none⟩)) (hy:a.eval y=.agg cs.toArray) (hB:BoxAt w b cs0) (hl:cs.length=cs0.length)
  (hi:(P.info? ty).map (·.size)=some cs.length) (h1:cs.toArray.all (·.oneCell')=true)
  (h:∀ w',BoxAt w' b cs→w.grownBy w' (some b)→wpList P ops Q rest (a.put op.dst undef) w'):wpList P ops Q (op :: rest) a w :=
 wpList_store_mid hgd ty x y ho b 0 cs.toArray hx hy (by rw[List.size_toArray,hl];exact hB.there) (by simpa using hi) h1 (h _ (hB.put cs hl) (grown_setCells b cs 0 w))
end Go.Proofs.YtoojdkaimhlcbaaGreat
namespace Go.Proofs.YtoojdkaimhlcbaaGreat
open Go Go.RowKit Go.Shelf
attribute [local go_sem] Oper.semAt_some
def Chk (n:Nat):Type:={q:Nat × Nat // q.1+q.2≤n∧0<q.2}
def Chk.enc {n:Nat} (O:Option Addr) (q:Chk n):Value:=.slice (O.map (·.add (q.1.1*1))) q.1.2 q.1.2
def Two (b c:Nat) (W W':World):Prop:=W'.heap[b]?=W.heap[b]?∧W'.heap[c]?=W.heap[c]?
theorem Two.refl (b c:Nat) (W:World):Two b c W W:=⟨rfl,rfl⟩
theorem Two.trans {b c:Nat} {W X Y:World} (h:Two b c W X) (g:Two b c X Y):Two b c W Y:=⟨g.1.trans h.1,g.2.trans h.2⟩
theorem Two.other {b c o:Nat} {W W':World} (h:Two b c W W'):W'.cell? ⟨c,o,none⟩=W.cell? ⟨c,o,none⟩:=World.cell?_of_block (a:=⟨c,o,none⟩) h.2
end Go.Proofs.YtoojdkaimhlcbaaGreat
namespace Go.Proofs.YtoojdkaimhlcbaaGreat
open Go Go.RowKit Go.Shelf
attribute [local go_sem] Oper.semAt_some
theorem BoxAt.off {w:World} {B B':Nat} {cs:List Value} (h:BoxAt w B cs) (o:Nat) (v:Value) (hne:B≠B'):BoxAt (w.setCell ⟨B',o,none⟩ v) B cs:=h.grown (grown_set w B' o v) (fun e=>hne (by cases e;rfl))
end Go.Proofs.YtoojdkaimhlcbaaGreat
namespace Go.Proofs.YtoojdkaimhlcbaaGreat
open Go Go.RowKit
structure NumsAt (w:World) (b o:Nat) (zs:List Int):Prop where
 c:∀ (k:Nat) z,zs[k]?=some z→w.cell? ⟨b,o+k,none⟩=some (.int .i64 z)
 lt:b<w.heap.size
 le:zs.length≤1000000
end Go.Proofs.YtoojdkaimhlcbaaGreat
namespace Go.Proofs.YtoojdkaimhlcbaaGreat
open Go Go.RowKit
theorem NumsAt.d {w:World} {b o:Nat} {zs:List Int} (h:NumsAt w b o zs) {k:Nat} (hk:k<zs.length):w.cell? ⟨b,o+k,none⟩=some (.int .i64 (zs.getD k 0)):=h.c k _ (by rw[List.getD_eq_getElem?_getD,List.getElem?_eq_getElem hk];rfl)
end Go.Proofs.YtoojdkaimhlcbaaGreat
namespace Go.Proofs.YtoojdkaimhlcbaaGreat
open Go Go.RowKit Go.Sort
theorem intsI_at {w:World} {A:Option Addr} {zs:List Int} (h:RowsAt w A 1 (intRows zs)) {k:Nat} (hk:k<zs.length):∃ b o,A=some ⟨b,o,none⟩∧b<w.heap.size∧w.cell? ⟨b,o+k,none⟩=some (.int .i64 zs[k]):=by
 obtain⟨b,o,hA,hb,hc⟩:=h k [.int .i64 zs[k]] (by simp[intRows,List.getElem?_eq_getElem hk])
 have:=hc 0 _ rfl
 simp only[Nat.mul_one,Nat.add_zero] at this
 exact⟨b,o,hA,hb,this⟩
theorem RowsAt.headI {w:World} {A:Option Addr} {m:Nat} {rows:List (List Value)} (h:RowsAt w A m rows) (k:Nat):RowsAt w A m (rows.take k):=fun j r hr=>by
 refine h j r ?_
 rw[List.getElem?_take] at hr
 split at hr
 ·exact hr
 cases hr
theorem cut_headI {t:TypeId} {m:Nat} (hu:Tryz.prog.underlying t=some (.slice (Tryz.prog.elem t))) (hz:∀ w,(sizeOf (Tryz.prog.elem t)).run Tryz.prog w=.ok m w) {w:World} {A:Option Addr} {n c:Nat} {rows:List (List Value)} (hn:n=rows.length) (hr:RowsAt w A m rows) (hc:n≤c) {k:Nat} (hk:k≤n) :
  ∃ A1 c1,(∀ w',(Instr.slice t (.slice A n c) none (some (.int .i64 k)) none).run Tryz.prog w'=.ok (.slice A1 k c1) w')∧RowsAt w A1 m (rows.take k):=by
 have hr1:=hr.headI k
 refine⟨if c=0 then A else A.map (·.add (0*m)),c-0,fun w'=>?_,?_⟩
 ·rw[run_slice_h w' t A n c hu .i64 k (by omega) (by omega),hz]
  simp[Result.andThen,sliced]
 split
 ·exact hr1
 intro j r hj
 obtain⟨b,o,hA,hb,hcell⟩:=hr1 j r hj
 exact⟨b,o,by rw[hA,Option.map_some,Nat.zero_mul];rfl,hb,hcell⟩
theorem sizeIntI (w:World):(sizeOf (Tryz.prog.elem 84)).run Tryz.prog w=.ok 1 w:=by kernel_rfl
theorem undIntsI:Tryz.prog.underlying 84=some (.slice (Tryz.prog.elem 84)):=by kernel_rfl
def firstNZ:List Int→Int
 | []=>0
 | z :: l=>if z=0 then firstNZ l else z
def nzTo (zs:List Int) (k:Nat):Prop:=firstNZ (zs.drop k)=firstNZ zs
theorem Or_any (A:Option Addr) (c:Nat) (zs:List Int) (w:World) (h:RowsAt w A 1 (intRows zs)) (hs:zs.length≤1000000) :
  Calls Tryz.prog 60 #[.slice A zs.length c] w fun e w'=>e=.returned (.int .i64 (firstNZ zs))∧w=w':=by
 have h':=Lib.hid h
 have h0:Hid (nzTo zs 0):=rfl
 clear h
 go_enter Tryz.func60,Tryz.ntmps60
 go_wp2
 go_loop [8] (fun i=>∃ k:Nat,k≤zs.length∧i=.int .i64 k∧Hid (nzTo zs k)) (fun i=>zs.length-(intOf i).toNat)
 case atStart=>exact⟨0,Nat.zero_le _,rfl,h0⟩
 case round =>
  obtain⟨k,hk,rfl,hm⟩:=hrel
  clear h0
  by_cases hlt:k<zs.length
  ·obtain⟨b,o,rfl,_,e1⟩:=intsI_at h'.out hlt
   have hd:=Lib.hid (List.drop_eq_getElem_cons hlt)
   have hnz:=Lib.hid (fun (h:zs[k]=0)=>show nzTo zs (k+1) from by have:=hm.out;unfold nzTo at this ⊢;rw[←this,hd.out,firstNZ,if_pos h])
   have hfz:=Lib.hid (fun (h:¬zs[k]=0)=>show firstNZ zs=zs[k] from by have:=hm.out;unfold nzTo at this;rw[←this,hd.out,firstNZ,if_neg h])
   clear hd
   generalize zs[k]=z at *
   by_cases hz:z=0
   ·have hnx:Hid (nzTo zs (k+1)):=hnz.out hz
    clear hnz hfz
    subst hz
    go_wp2
    go_round
    case rel=>exact⟨k+1,by omega,by go_num,hnx⟩
    case measure=>simp[intOf];omega
   have hfin:Hid (firstNZ zs=z):=hfz.out hz
   have hz':(z != 0)=true:=by simpa using hz
   clear hnz hfz hz
   go_wp2
   go_ret
   exact⟨ret_int hfin.out.symm,rfl⟩
  obtain rfl:k=zs.length:=by omega
  have hfin:Hid (firstNZ zs=0):=by have:=hm.out;unfold nzTo at this;rw[List.drop_length] at this;exact this.symm
  go_wp2
  go_ret
  exact⟨ret_int hfin.out.symm,rfl⟩
theorem ints_new (w:World) (cs:Array Value) (t:TypeId) (zs:List Int) (hc:cs.toList=zs.map (Value.int .i64)):RowsAt (w.alloc (.cells cs t)) (some ⟨w.heap.size,0,none⟩) 1 (intRows zs):=fun k r hr=>by
 have hk:k<zs.length:=by
  have:=(List.getElem?_eq_some_iff.1 hr).1
  rwa [intRows_length] at this
 have hrow:r=[.int .i64 zs[k]]:=by
  unfold intRows at hr
  rw[List.getElem?_map,List.getElem?_eq_getElem hk] at hr
  exact (Option.some.inj hr).symm
 subst hrow
 refine⟨_,_,rfl,by simp,fun j v hv=>?_⟩
 match j,hv with
 | 0,hv =>
  cases hv
  rw[Nat.zero_add,cell_alloc_at,←Array.getElem?_toList,hc]
  simp[hk]
 | j+1,hv=>simp at hv
theorem cmpI_any (x y:Int) (w:World):Calls Tryz.prog 95 #[.int .i64 x,.int .i64 y] w fun e w'=>e=.returned (.int .i64 (Lib.compareInt x y))∧w=w':=(Tryz.cmp_Compare_int x y w).mono fun _ _ h=>⟨h.1,h.2.symm⟩
end Go.Proofs.YtoojdkaimhlcbaaGreat
namespace Go.Proofs.YtoojdkaimhlcbaaGreat
open Go Go.RowKit Go.Maps Go.WideMaps
theorem RowsAt.farI {W W':World} {row:Option Nat} {A:Option Addr} {m:Nat} {rows:List (List Value)} (h:RowsAt W A m rows) (hg:W.grownBy W' row) (hA:∀ a,A=some a→some a.block≠row):RowsAt W' A m rows:=fun k r hk=>by
 obtain⟨b,o,h1,h2,h3⟩:=h k r hk
 exact⟨b,o,h1,Nat.lt_of_lt_of_le h2 hg.size,fun j v hv=>(World.cell?_of_block (a:=⟨b,o+(k*m+j),none⟩) (hg.block b h2 (hA _ h1))).trans (h3 j v hv)⟩
end Go.Proofs.YtoojdkaimhlcbaaGreat
