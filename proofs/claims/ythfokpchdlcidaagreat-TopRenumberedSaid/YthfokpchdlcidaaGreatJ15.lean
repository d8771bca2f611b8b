/- What the statements rest on: definitions and walks, part 15. -/
import Derived.Test.YthfokpchdlcidaaGreatJ13
set_option maxRecDepth 100000
set_option maxHeartbeats 16000000
set_option linter.unusedSimpArgs false
set_option linter.unusedVariables false
namespace Go.Proofs.YthfokpchdlcidaaGreat
open Go Go.RowKit Go.Shelf
theorem sdsR_drop {ps:List Pt} {k:Nat} (h:k<ps.length):(Cal.sds ps).drop k=Cal.sd ps k :: (Cal.sds ps).drop (k+1):=by
 have hk:k<(Cal.sds ps).length:=by unfold Cal.sds;simpa using h
 rw[List.drop_eq_getElem_cons hk]
 congr 1
 simp[Cal.sds]
def sgnB (b:Bool):Int:=if b then 1 else -1
theorem trn_pos (s:Sd) (q:Pt):decide (0<Cal.trn s q)=decide (0<Cal.crs s q):=by
 rw[decide_eq_decide]
 unfold Cal.trn Cal.cmpI
 split
 ·omega
 split <;> omega
theorem whereFrom_step (q:Pt) (b:Bool) (s:Sd) (r:List Sd) (hon:Cal.hasP s q=false) :
  Cal.whereFrom q b (s :: r)=Cal.whereFrom q (if (decide (s.a.y≤q.y) != decide (s.b.y≤q.y)) && (decide (0<Cal.crs s q) == decide (s.a.y<s.b.y)) then !b else b) r:=by
 rw[Cal.whereFrom,hon,trn_pos]
 have e1:decide (q.y<s.a.y)=!decide (s.a.y≤q.y):=by rw[←decide_not,decide_eq_decide];omega
 have e2:decide (q.y<s.b.y)=!decide (s.b.y≤q.y):=by rw[←decide_not,decide_eq_decide];omega
 rw[e1,e2]
 generalize decide (s.a.y≤q.y)=x
 generalize decide (s.b.y≤q.y)=y
 cases x <;> cases y <;> rfl
theorem WhereR_any (V:Option Addr) (d:Nat) (ps:List Pt) (q:Pt) (w:World) (hP:Pts w V ps) (hq:SmP q) (hl:ps.length≤100000):Calls Tryz.prog 51 #[.slice V ps.length d,.agg #[.int .i64 q.x,.int .i64 q.y]] w fun e w'=>e=.returned (.int .i64 (Cal.whereP ps q))∧Below w.heap.size w w':=by
 have hPR:Hid (PtsR w V ps):=⟨hP.rows,hP.size,hP.own⟩
 have hsm:=Lib.hid (fun k hk=>hP.sd k hk)
 have hb0:=Lib.hid (below_alloc w (.cells #[.int .i64 q.x,.int .i64 q.y] 27))
 have hQ0:=Lib.hid (BoxAt.new w #[.int .i64 q.x,.int .i64 q.y] 27)
 have h00:Hid (Cal.whereP ps q=Cal.whereFrom q false ((Cal.sds ps).drop 0)):=rfl
 generalize Cal.whereP ps q=z at *
 clear hP
 go_enter Tryz.func51,Tryz.ntmps51
 go_wp2_with fail
 go_loopw [5,6] (fun n i wr=>∃ (k:Nat) (b:Bool),k≤ps.length∧i=.int .i64 k∧n=.int .i64 (sgnB b)∧Hid (z=Cal.whereFrom q b ((Cal.sds ps).drop k))∧Hid (BoxAt wr w.heap.size [.int .i64 q.x,.int .i64 q.y])∧Hid (Below w.heap.size w wr)) (fun _ i _=>ps.length-(intOf i).toNat)
 case atStart=>exact⟨0,false,Nat.zero_le _,rfl,rfl,h00,hQ0,hb0⟩
 case round =>
  clear hb0 hQ0 h00
  obtain⟨k,b,hk,rfl,rfl,hz,hQ,hb⟩:=hrel
  by_cases hlt:k<ps.length
  ·have hs:SmS (Cal.sd ps k):=hsm.out k hlt
   have hsd:=Lib.hid (fun W hW=>sideR_any V d ps k W (hPR.out.below hW) hlt hl)
   have hz2:z=Cal.whereFrom q b (Cal.sd ps k :: (Cal.sds ps).drop (k+1)):=by rw[←sdsR_drop hlt];exact hz.out
   clear hz
   generalize Cal.sd ps k=s at *
   have hon:=Lib.hid (fun W=>OnR_any s q W hs hq)
   have hcr:Hid (∀ W,Calls Tryz.prog 93 #[.agg #[.int .i64 s.a.x,.int .i64 s.a.y],.agg #[.int .i64 s.b.x,.int .i64 s.b.y],.agg #[.int .i64 q.x,.int .i64 q.y]] W fun e w'=>e=.returned (.int .i64 (Cal.crs s q))∧Below W.heap.size W w'):=fun W=>crossR_any s.a s.b q W hs.a hs.b hq
   cases hh:Cal.hasP s q
   ·rw[whereFrom_step q b s _ hh] at hz2
    have hz:=Lib.hid hz2
    rw[hh] at hon
    clear hz2 hh hs
    have hneg:IntKind.i64.wrap (-(sgnB b))=sgnB (!b):=by cases b <;> rfl
    by_cases h1:s.a.y≤q.y
    ·by_cases h2:s.b.y≤q.y
     ·have hz2:Hid (z=Cal.whereFrom q b ((Cal.sds ps).drop (k+1))):=by
       show _=_
       have:=hz.out
       rw[decide_eq_true h1,decide_eq_true h2] at this
       exact this
      clear hz
      have f0:=decide_eq_true h1
      have f1:=decide_eq_true h2
      go_wp2_with (first
       |(go_at_call 84;refine (hsd.out _ hb.out).mono ?_;rintro e w1 ⟨rfl,hb1⟩;have hQ1:=Lib.hid ((hQ.out.below hb1).below (below_alloc w1 (.cells #[.int .i64 s.a.x,.int .i64 s.a.y,.int .i64 s.b.x,.int .i64 s.b.y] 90)));have hbb1:=Lib.hid (below_step (below_step hb.out hb1) (below_alloc w1 (.cells #[.int .i64 s.a.x,.int .i64 s.a.y,.int .i64 s.b.x,.int .i64 s.b.y] 90)));have hB1:=Lib.hid (BoxAt.new w1 #[.int .i64 s.a.x,.int .i64 s.a.y,.int .i64 s.b.x,.int .i64 s.b.y] 90);obtain⟨d0,d1⟩:=hQ1.out.c2;clear hb1)
       |(go_at_call 85;refine (hon.out _).mono ?_;rintro e w2 ⟨rfl,hb2⟩;have hQ2:=Lib.hid (hQ1.out.below hb2);have hbb2:=Lib.hid (below_step hbb1.out hb2);have hB2:=Lib.hid (hB1.out.below hb2);clear hb2 d0 d1;obtain⟨d0,d1⟩:=hQ2.out.c2;obtain⟨c0,c1,c2,c3⟩:=hB2.out.c4)
       |(go_at_call 93;refine (hcr.out _).mono ?_;rintro e w3 ⟨rfl,hb3⟩;have hQ3:=Lib.hid (hQ2.out.below hb3);have hbb3:=Lib.hid (below_step hbb2.out hb3);have hB3:=Lib.hid (hB2.out.below hb3);clear hb3 d0 d1 c0 c1 c2 c3;obtain⟨d0,d1⟩:=hQ3.out.c2;obtain⟨c0,c1,c2,c3⟩:=hB3.out.c4))
      go_roundw
      case rel=>exact⟨k+1,b,hlt,by go_num,rfl,hz2,hQ2,hbb2⟩
      case measure=>simp[intOf];omega
     have h4:s.a.y<s.b.y:=by omega
     by_cases h3:0<Cal.crs s q
     ·have hz2:Hid (z=Cal.whereFrom q (!b) ((Cal.sds ps).drop (k+1))):=by
       show _=_
       have:=hz.out
       rw[decide_eq_true h1,decide_eq_false h2,decide_eq_true h3,decide_eq_true h4] at this
       exact this
      clear hz
      have f0:=decide_eq_true h1
      have f1:=decide_eq_false h2
      have f2:=decide_eq_true h3
      have f3:=decide_eq_true h4
      go_wp2_with (first
       |(go_at_call 84;refine (hsd.out _ hb.out).mono ?_;rintro e w1 ⟨rfl,hb1⟩;have hQ1:=Lib.hid ((hQ.out.below hb1).below (below_alloc w1 (.cells #[.int .i64 s.a.x,.int .i64 s.a.y,.int .i64 s.b.x,.int .i64 s.b.y] 90)));have hbb1:=Lib.hid (below_step (below_step hb.out hb1) (below_alloc w1 (.cells #[.int .i64 s.a.x,.int .i64 s.a.y,.int .i64 s.b.x,.int .i64 s.b.y] 90)));have hB1:=Lib.hid (BoxAt.new w1 #[.int .i64 s.a.x,.int .i64 s.a.y,.int .i64 s.b.x,.int .i64 s.b.y] 90);obtain⟨d0,d1⟩:=hQ1.out.c2;clear hb1)
       |(go_at_call 85;refine (hon.out _).mono ?_;rintro e w2 ⟨rfl,hb2⟩;have hQ2:=Lib.hid (hQ1.out.below hb2);have hbb2:=Lib.hid (below_step hbb1.out hb2);have hB2:=Lib.hid (hB1.out.below hb2);clear hb2 d0 d1;obtain⟨d0,d1⟩:=hQ2.out.c2;obtain⟨c0,c1,c2,c3⟩:=hB2.out.c4)
       |(go_at_call 93;refine (hcr.out _).mono ?_;rintro e w3 ⟨rfl,hb3⟩;have hQ3:=Lib.hid (hQ2.out.below hb3);have hbb3:=Lib.hid (below_step hbb2.out hb3);have hB3:=Lib.hid (hB2.out.below hb3);clear hb3 d0 d1 c0 c1 c2 c3;obtain⟨d0,d1⟩:=hQ3.out.c2;obtain⟨c0,c1,c2,c3⟩:=hB3.out.c4))
      go_roundw
      case rel=>exact⟨k+1,!b,hlt,by go_num,rfl,hz2,hQ3,hbb3⟩
      case measure=>simp[intOf];omega
     have hz2:Hid (z=Cal.whereFrom q b ((Cal.sds ps).drop (k+1))):=by
      show _=_
      have:=hz.out
      rw[decide_eq_true h1,decide_eq_false h2,decide_eq_false h3,decide_eq_true h4] at this
      exact this
     clear hz
     have f0:=decide_eq_true h1
     have f1:=decide_eq_false h2
     have f2:=decide_eq_false h3
     have f3:=decide_eq_true h4
     go_wp2_with (first
      |(go_at_call 84;refine (hsd.out _ hb.out).mono ?_;rintro e w1 ⟨rfl,hb1⟩;have hQ1:=Lib.hid ((hQ.out.below hb1).below (below_alloc w1 (.cells #[.int .i64 s.a.x,.int .i64 s.a.y,.int .i64 s.b.x,.int .i64 s.b.y] 90)));have hbb1:=Lib.hid (below_step (below_step hb.out hb1) (below_alloc w1 (.cells #[.int .i64 s.a.x,.int .i64 s.a.y,.int .i64 s.b.x,.int .i64 s.b.y] 90)));have hB1:=Lib.hid (BoxAt.new w1 #[.int .i64 s.a.x,.int .i64 s.a.y,.int .i64 s.b.x,.int .i64 s.b.y] 90);obtain⟨d0,d1⟩:=hQ1.out.c2;clear hb1)
      |(go_at_call 85;refine (hon.out _).mono ?_;rintro e w2 ⟨rfl,hb2⟩;have hQ2:=Lib.hid (hQ1.out.below hb2);have hbb2:=Lib.hid (below_step hbb1.out hb2);have hB2:=Lib.hid (hB1.out.below hb2);clear hb2 d0 d1;obtain⟨d0,d1⟩:=hQ2.out.c2;obtain⟨c0,c1,c2,c3⟩:=hB2.out.c4)
      |(go_at_call 93;refine (hcr.out _).mono ?_;rintro e w3 ⟨rfl,hb3⟩;have hQ3:=Lib.hid (hQ2.out.below hb3);have hbb3:=Lib.hid (below_step hbb2.out hb3);have hB3:=Lib.hid (hB2.out.below hb3);clear hb3 d0 d1 c0 c1 c2 c3;obtain⟨d0,d1⟩:=hQ3.out.c2;obtain⟨c0,c1,c2,c3⟩:=hB3.out.c4))
     go_roundw
     case rel=>exact⟨k+1,b,hlt,by go_num,rfl,hz2,hQ3,hbb3⟩
     case measure=>simp[intOf];omega
    by_cases h2:s.b.y≤q.y
    ·have h4:¬s.a.y<s.b.y:=by omega
     by_cases h3:0<Cal.crs s q
     ·have hz2:Hid (z=Cal.whereFrom q b ((Cal.sds ps).drop (k+1))):=by
       show _=_
       have:=hz.out
       rw[decide_eq_false h1,decide_eq_true h2,decide_eq_true h3,decide_eq_false h4] at this
       exact this
      clear hz
      have f0:=decide_eq_false h1
      have f1:=decide_eq_true h2
      have f2:=decide_eq_true h3
      have f3:=decide_eq_false h4
      go_wp2_with (first
       |(go_at_call 84;refine (hsd.out _ hb.out).mono ?_;rintro e w1 ⟨rfl,hb1⟩;have hQ1:=Lib.hid ((hQ.out.below hb1).below (below_alloc w1 (.cells #[.int .i64 s.a.x,.int .i64 s.a.y,.int .i64 s.b.x,.int .i64 s.b.y] 90)));have hbb1:=Lib.hid (below_step (below_step hb.out hb1) (below_alloc w1 (.cells #[.int .i64 s.a.x,.int .i64 s.a.y,.int .i64 s.b.x,.int .i64 s.b.y] 90)));have hB1:=Lib.hid (BoxAt.new w1 #[.int .i64 s.a.x,.int .i64 s.a.y,.int .i64 s.b.x,.int .i64 s.b.y] 90);obtain⟨d0,d1⟩:=hQ1.out.c2;clear hb1)
       |(go_at_call 85;refine (hon.out _).mono ?_;rintro e w2 ⟨rfl,hb2⟩;have hQ2:=Lib.hid (hQ1.out.below hb2);have hbb2:=Lib.hid (below_step hbb1.out hb2);have hB2:=Lib.hid (hB1.out.below hb2);clear hb2 d0 d1;obtain⟨d0,d1⟩:=hQ2.out.c2;obtain⟨c0,c1,c2,c3⟩:=hB2.out.c4)
       |(go_at_call 93;refine (hcr.out _).mono ?_;rintro e w3 ⟨rfl,hb3⟩;have hQ3:=Lib.hid (hQ2.out.below hb3);have hbb3:=Lib.hid (below_step hbb2.out hb3);have hB3:=Lib.hid (hB2.out.below hb3);clear hb3 d0 d1 c0 c1 c2 c3;obtain⟨d0,d1⟩:=hQ3.out.c2;obtain⟨c0,c1,c2,c3⟩:=hB3.out.c4))
      go_roundw
      case rel=>exact⟨k+1,b,hlt,by go_num,rfl,hz2,hQ3,hbb3⟩
      case measure=>simp[intOf];omega
     have hz2:Hid (z=Cal.whereFrom q (!b) ((Cal.sds ps).drop (k+1))):=by
      show _=_
      have:=hz.out
      rw[decide_eq_false h1,decide_eq_true h2,decide_eq_false h3,decide_eq_false h4] at this
      exact this
     clear hz
     have f0:=decide_eq_false h1
     have f1:=decide_eq_true h2
     have f2:=decide_eq_false h3
     have f3:=decide_eq_false h4
     go_wp2_with (first
      |(go_at_call 84;refine (hsd.out _ hb.out).mono ?_;rintro e w1 ⟨rfl,hb1⟩;have hQ1:=Lib.hid ((hQ.out.below hb1).below (below_alloc w1 (.cells #[.int .i64 s.a.x,.int .i64 s.a.y,.int .i64 s.b.x,.int .i64 s.b.y] 90)));have hbb1:=Lib.hid (below_step (below_step hb.out hb1) (below_alloc w1 (.cells #[.int .i64 s.a.x,.int .i64 s.a.y,.int .i64 s.b.x,.int .i64 s.b.y] 90)));have hB1:=Lib.hid (BoxAt.new w1 #[.int .i64 s.a.x,.int .i64 s.a.y,.int .i64 s.b.x,.int .i64 s.b.y] 90);obtain⟨d0,d1⟩:=hQ1.out.c2;clear hb1)
      |(go_at_call 85;refine (hon.out _).mono ?_;rintro e w2 ⟨rfl,hb2⟩;have hQ2:=Lib.hid (hQ1.out.below hb2);have hbb2:=Lib.hid (below_step hbb1.out hb2);have hB2:=Lib.hid (hB1.out.below hb2);clear hb2 d0 d1;obtain⟨d0,d1⟩:=hQ2.out.c2;obtain⟨c0,c1,c2,c3⟩:=hB2.out.c4)
      |(go_at_call 93;refine (hcr.out _).mono ?_;rintro e w3 ⟨rfl,hb3⟩;have hQ3:=Lib.hid (hQ2.out.below hb3);have hbb3:=Lib.hid (below_step hbb2.out hb3);have hB3:=Lib.hid (hB2.out.below hb3);clear hb3 d0 d1 c0 c1 c2 c3;obtain⟨d0,d1⟩:=hQ3.out.c2;obtain⟨c0,c1,c2,c3⟩:=hB3.out.c4))
     go_roundw
     case rel=>exact⟨k+1,!b,hlt,by go_num,rfl,hz2,hQ3,hbb3⟩
     case measure=>simp[intOf];omega
    have hz2:Hid (z=Cal.whereFrom q b ((Cal.sds ps).drop (k+1))):=by
     show _=_
     have:=hz.out
     rw[decide_eq_false h1,decide_eq_false h2] at this
     exact this
    clear hz
    have f0:=decide_eq_false h1
    have f1:=decide_eq_false h2
    go_wp2_with (first
     |(go_at_call 84;refine (hsd.out _ hb.out).mono ?_;rintro e w1 ⟨rfl,hb1⟩;have hQ1:=Lib.hid ((hQ.out.below hb1).below (below_alloc w1 (.cells #[.int .i64 s.a.x,.int .i64 s.a.y,.int .i64 s.b.x,.int .i64 s.b.y] 90)));have hbb1:=Lib.hid (below_step (below_step hb.out hb1) (below_alloc w1 (.cells #[.int .i64 s.a.x,.int .i64 s.a.y,.int .i64 s.b.x,.int .i64 s.b.y] 90)));have hB1:=Lib.hid (BoxAt.new w1 #[.int .i64 s.a.x,.int .i64 s.a.y,.int .i64 s.b.x,.int .i64 s.b.y] 90);obtain⟨d0,d1⟩:=hQ1.out.c2;clear hb1)
     |(go_at_call 85;refine (hon.out _).mono ?_;rintro e w2 ⟨rfl,hb2⟩;have hQ2:=Lib.hid (hQ1.out.below hb2);have hbb2:=Lib.hid (below_step hbb1.out hb2);have hB2:=Lib.hid (hB1.out.below hb2);clear hb2 d0 d1;obtain⟨d0,d1⟩:=hQ2.out.c2;obtain⟨c0,c1,c2,c3⟩:=hB2.out.c4)
     |(go_at_call 93;refine (hcr.out _).mono ?_;rintro e w3 ⟨rfl,hb3⟩;have hQ3:=Lib.hid (hQ2.out.below hb3);have hbb3:=Lib.hid (below_step hbb2.out hb3);have hB3:=Lib.hid (hB2.out.below hb3);clear hb3 d0 d1 c0 c1 c2 c3;obtain⟨d0,d1⟩:=hQ3.out.c2;obtain⟨c0,c1,c2,c3⟩:=hB3.out.c4))
    go_roundw
    case rel=>exact⟨k+1,b,hlt,by go_num,rfl,hz2,hQ2,hbb2⟩
    case measure=>simp[intOf];omega
   have hz3:Hid (z=0):=by show _=_;rw[hz2,Cal.whereFrom,hh];rfl
   rw[hh] at hon
   clear hz2 hh hs
   go_wp2_with (first
    |(go_at_call 84;refine (hsd.out _ hb.out).mono ?_;rintro e w1 ⟨rfl,hb1⟩;have hQ1:=Lib.hid ((hQ.out.below hb1).below (below_alloc w1 (.cells #[.int .i64 s.a.x,.int .i64 s.a.y,.int .i64 s.b.x,.int .i64 s.b.y] 90)));have hbb1:=Lib.hid (below_step (below_step hb.out hb1) (below_alloc w1 (.cells #[.int .i64 s.a.x,.int .i64 s.a.y,.int .i64 s.b.x,.int .i64 s.b.y] 90)));have hB1:=Lib.hid (BoxAt.new w1 #[.int .i64 s.a.x,.int .i64 s.a.y,.int .i64 s.b.x,.int .i64 s.b.y] 90);obtain⟨d0,d1⟩:=hQ1.out.c2;clear hb1)
    |(go_at_call 85;refine (hon.out _).mono ?_;rintro e w2 ⟨rfl,hb2⟩;have hQ2:=Lib.hid (hQ1.out.below hb2);have hbb2:=Lib.hid (below_step hbb1.out hb2);have hB2:=Lib.hid (hB1.out.below hb2);clear hb2 d0 d1;obtain⟨d0,d1⟩:=hQ2.out.c2;obtain⟨c0,c1,c2,c3⟩:=hB2.out.c4)
    |(go_at_call 93;refine (hcr.out _).mono ?_;rintro e w3 ⟨rfl,hb3⟩;have hQ3:=Lib.hid (hQ2.out.below hb3);have hbb3:=Lib.hid (below_step hbb2.out hb3);have hB3:=Lib.hid (hB2.out.below hb3);clear hb3 d0 d1 c0 c1 c2 c3;obtain⟨d0,d1⟩:=hQ3.out.c2;obtain⟨c0,c1,c2,c3⟩:=hB3.out.c4))
   go_ret
   exact⟨by rw[hz3.out];rfl,hbb2.out⟩
  have hke:k=ps.length:=by omega
  have hz3:Hid (z=sgnB b):=by
   have:=hz.out
   rw[hke,List.drop_of_length_le (by simp[Cal.sds])] at this
   exact this
  subst hke
  clear hz
  go_wp2_with fail
  go_ret
  exact⟨by rw[hz3.out];rfl,hb.out⟩
end Go.Proofs.YthfokpchdlcidaaGreat
namespace Go.Proofs.YthfokpchdlcidaaGreat
namespace Geo
theorem apart_pos {a b q m:RP} (hq:0<crs a b q) (hm:0<crs a b m):Apart a b q m :=
 apart_side hq (by grind) (fun l _ _ e=>by rw[e,crs_at] at hm;exact absurd hm (by decide))
theorem apart_neg {a b q m:RP} (hq:crs a b q<0) (hm:crs a b m<0):Apart a b q m :=
 apart_side' hq (by grind) (fun l _ _ e=>by rw[e,crs_at] at hm;exact absurd hm (by decide))
theorem two_near {p q:RP→Prop} {a b:RP} (h1:∃ e:Rat,0<e∧∀ x,Near e a x→p x) (h2:∃ e:Rat,0<e∧∀ x,Near e b x→q x) :
  ∃ e:Rat,0<e∧∀ x y,Near e a x→Near e b y→p x∧q y:=by
 obtain⟨e,e0,he⟩:=h1
 obtain⟨f,f0,hf⟩:=h2
 rcases Rat.le_total (a:=e) (b:=f) with h | h
 ·exact⟨e,e0,fun x y hx hy=>⟨he x hx,hf y (hy.mono h)⟩⟩
 exact⟨f,f0,fun x y hx hy=>⟨he x (hx.mono h),hf y hy⟩⟩
theorem left_near {c d a:RP} (h:0<crs c d a):∃ e:Rat,0<e∧∀ q,Near e a q→0<crs c d q:=by
 obtain⟨e,e0,he⟩:=near_pos (f:=crs c d a) (α:=-(d.y-c.y)) (β:=d.x-c.x) h a
 refine⟨e,e0,fun q hq=>?_⟩
 have:=he q hq
 unfold crs at this ⊢
 grind
theorem right_near {c d a:RP} (h:crs c d a<0):∃ e:Rat,0<e∧∀ q,Near e a q→crs c d q<0:=by
 obtain⟨e,e0,he⟩:=left_near (c:=d) (d:=c) (a:=a) (by rw[crs_rev];grind)
 refine⟨e,e0,fun q hq=>?_⟩
 have:=he q hq
 rw[crs_rev] at this
 grind
theorem crs_near {a b c:RP} (h:0<crs a b c):∃ e:Rat,0<e∧∀ q r,Near e a q→Near e b r→0<crs q r c:=by
 obtain⟨k1,a0,a1,a2⟩:=abs_ex (c.x-a.x)
 obtain⟨k2,b0,b1,b2⟩:=abs_ex (c.y-a.y)
 obtain⟨k3,c0,c1,c2⟩:=abs_ex (b.x-a.x)
 obtain⟨k4,d0,d1,d2⟩:=abs_ex (b.y-a.y)
 have hK:0<2*k1+2*k2+k3+k4+5+crs a b c:=by grind
 have ee:=Rat.div_mul_cancel (a:=crs a b c) (b:=2*k1+2*k2+k3+k4+5+crs a b c) (by grind)
 have e0:0<crs a b c / (2*k1+2*k2+k3+k4+5+crs a b c):=pos_of_mul hK (by rw[ee];exact h)
 have e1:crs a b c / (2*k1+2*k2+k3+k4+5+crs a b c)≤1:=(div_mem hK (by grind) (by grind)).2
 refine⟨_,e0,fun q r hq hr=>?_⟩
 generalize crs a b c / (2*k1+2*k2+k3+k4+5+crs a b c)=e at *
 obtain⟨q1,q2,q3,q4⟩:=hq
 obtain⟨r1,r2,r3,r4⟩:=hr
 obtain⟨f,hf⟩:∃ f,crs a b c=f:=⟨_,rfl⟩
 have hexp:crs q r c=crs a b c+(((r.x-b.x)-(q.x-a.x))*(c.y-a.y)-((r.y-b.y)-(q.y-a.y))*(c.x-a.x))-((b.x-a.x)*(q.y-a.y)-(b.y-a.y)*(q.x-a.x))-(((r.x-b.x)-(q.x-a.x))*(q.y-a.y)-((r.y-b.y)-(q.y-a.y))*(q.x-a.x)):=by
  unfold crs;grind
 rw[hexp,hf]
 rw[hf] at ee h hK
 clear hexp hf
 generalize q.x-a.x=ux at *
 generalize q.y-a.y=uy at *
 generalize r.x-b.x=vx at *
 generalize r.y-b.y=vy at *
 generalize c.x-a.x=X at *
 generalize c.y-a.y=Y at *
 generalize b.x-a.x=Z at *
 generalize b.y-a.y=T at *
 have p1:=mul_abs b1 b2 (d:=vx-ux) (e:=2*e) (by grind) (by grind)
 have p2:=mul_abs a1 a2 (d:=vy-uy) (e:=2*e) (by grind) (by grind)
 have p3:=mul_abs c1 c2 (d:=uy) (e:=e) (by grind) (by grind)
 have p4:=mul_abs d1 d2 (d:=ux) (e:=e) (by grind) (by grind)
 have p5:=mul_abs (a:=vx-ux) (k:=2) (d:=uy) (e:=e) (by grind) (by grind) (by grind) (by grind)
 have p6:=mul_abs (a:=vy-uy) (k:=2) (d:=ux) (e:=e) (by grind) (by grind) (by grind) (by grind)
 have p7:=mul_pp e0 h
 grind
theorem crs_near_neg {a b c:RP} (h:crs a b c<0):∃ e:Rat,0<e∧∀ q r,Near e a q→Near e b r→crs q r c<0:=by
 obtain⟨e,e0,he⟩:=crs_near (a:=b) (b:=a) (c:=c) (by rw[crs_rev];grind)
 refine⟨e,e0,fun q r hq hr=>?_⟩
 have:=he r q hr hq
 rw[crs_rev] at this
 grind
theorem both_near {p q:RP→RP→Prop} {a b:RP} (h1:∃ e:Rat,0<e∧∀ x y,Near e a x→Near e b y→p x y) (h2:∃ e:Rat,0<e∧∀ x y,Near e a x→Near e b y→q x y) :
  ∃ e:Rat,0<e∧∀ x y,Near e a x→Near e b y→p x y∧q x y:=by
 obtain⟨e,e0,he⟩:=h1
 obtain⟨f,f0,hf⟩:=h2
 rcases Rat.le_total (a:=e) (b:=f) with h | h
 ·exact⟨e,e0,fun x y hx hy=>⟨he x y hx hy,hf x y (hx.mono h) (hy.mono h)⟩⟩
 exact⟨f,f0,fun x y hx hy=>⟨he x y (hx.mono h) (hy.mono h),hf x y hx hy⟩⟩
theorem apart_near {a b c d:RP} (hne:c≠d) (h:Apart c d a b):∃ e:Rat,0<e∧∀ q r,Near e a q→Near e b r→Apart c d q r:=by
 by_cases h1:0<crs c d a∧0<crs c d b
 ·obtain⟨e,e0,he⟩:=two_near (left_near h1.1) (left_near h1.2)
  exact⟨e,e0,fun q r hq hr=>apart_pos (he q r hq hr).1 (he q r hq hr).2⟩
 by_cases h2:crs c d a<0∧crs c d b<0
 ·obtain⟨e,e0,he⟩:=two_near (right_near h2.1) (right_near h2.2)
  exact⟨e,e0,fun q r hq hr=>apart_neg (he q r hq hr).1 (he q r hq hr).2⟩
 by_cases h3:0<crs a b c∧0<crs a b d
 ·obtain⟨e,e0,he⟩:=both_near (crs_near h3.1) (crs_near h3.2)
  exact⟨e,e0,fun q r hq hr=>(apart_pos (he q r hq hr).1 (he q r hq hr).2).swap⟩
 by_cases h4:crs a b c<0∧crs a b d<0
 ·obtain⟨e,e0,he⟩:=both_near (crs_near_neg h4.1) (crs_near_neg h4.2)
  exact⟨e,e0,fun q r hq hr=>(apart_neg (he q r hq hr).1 (he q r hq hr).2).swap⟩
 have hsum:=crs_sum a b c d
 rcases Std.lt_trichotomy (crs c d a) (crs c d b) with hab | hab | hab
 ·exact absurd h.swap (meet_of (a:=a) (b:=b) (q:=c) (r:=d) (by grind) (by grind) (by grind) (by grind) hab)
 ·have z1:crs c d a=0:=by grind
  have z2:crs c d b=0:=by grind
  obtain⟨x,hx⟩:=line_param hne z1
  obtain⟨y,hy⟩:=line_param hne z2
  have L:0<(d.x-c.x)*(d.x-c.x)+(d.y-c.y)*(d.y-c.y):=by
   have s1:=sq0 (d.x-c.x)
   have s2:=sq0 (d.y-c.y)
   refine Rat.not_le.1 fun hz=>hne ?_
   have z1:(d.x-c.x)*(d.x-c.x)=0:=by grind
   have z2:(d.y-c.y)*(d.y-c.y)=0:=by grind
   have z1:d.x-c.x=0:=by rcases Rat.mul_eq_zero.1 z1 with z | z <;> exact z
   have z2:d.y-c.y=0:=by rcases Rat.mul_eq_zero.1 z2 with z | z <;> exact z
   cases c;cases d
   rw[RP.mk.injEq]
   constructor <;> grind
  have ox:x<0∨1<x:=by
   by_cases g:0≤x
   ·by_cases g1:x≤1
    ·exact absurd (by rw[at0,hx]) (h x 0 g g1 (by grind) (by grind))
    exact .inr (by grind)
   exact .inl (by grind)
  have oy:y<0∨1<y:=by
   by_cases g:0≤y
   ·by_cases g1:y≤1
    ·exact absurd (by rw[at1,hy]) (h y 1 g g1 (by grind) (by grind))
    exact .inr (by grind)
   exact .inl (by grind)
  have dx:(a.x-c.x)*(d.x-c.x)+(a.y-c.y)*(d.y-c.y)=x*((d.x-c.x)*(d.x-c.x)+(d.y-c.y)*(d.y-c.y)):=by rw[hx];unfold at';dsimp only;grind
  have dy:(b.x-c.x)*(d.x-c.x)+(b.y-c.y)*(d.y-c.y)=y*((d.x-c.x)*(d.x-c.x)+(d.y-c.y)*(d.y-c.y)):=by rw[hy];unfold at';dsimp only;grind
  have meet:∀ z:Rat,0≤z→z≤1→x+z*(y-x)=0→False:=fun z z0 z1 ez=>by
   refine h 0 z (by grind) (by grind) z0 z1 ?_
   rw[at0,hx,hy,at_at,ez,at0]
  have onseg:∀ (q r:RP) (m:Rat),(at' q r m).x-c.x=(1-m)*(q.x-c.x)+m*(r.x-c.x)∧(at' q r m).y-c.y=(1-m)*(q.y-c.y)+m*(r.y-c.y):=fun q r m=>by
   unfold at';dsimp only;constructor <;> grind
  rcases ox with ox | ox
  ·rcases oy with oy | oy
   ·have p1:=mul_pp (a:=-x) (by grind) L
    have p2:=mul_pp (a:=-y) (by grind) L
    obtain⟨e,e0,he⟩:=two_near (p:=fun q=>(q.x-c.x)*(d.x-c.x)+(q.y-c.y)*(d.y-c.y)<0) (q:=fun q=>(q.x-c.x)*(d.x-c.x)+(q.y-c.y)*(d.y-c.y)<0) (a:=a) (b:=b)
     (by
      obtain⟨e,e0,he⟩:=near_pos (f:=-((a.x-c.x)*(d.x-c.x)+(a.y-c.y)*(d.y-c.y))) (α:=-(d.x-c.x)) (β:=-(d.y-c.y)) (by rw[dx];grind) a
      exact⟨e,e0,fun q hq=>by have:=he q hq;grind⟩)
     (by
      obtain⟨e,e0,he⟩:=near_pos (f:=-((b.x-c.x)*(d.x-c.x)+(b.y-c.y)*(d.y-c.y))) (α:=-(d.x-c.x)) (β:=-(d.y-c.y)) (by rw[dy];grind) b
      exact⟨e,e0,fun q hq=>by have:=he q hq;grind⟩)
    refine⟨e,e0,fun q r hq hr l m l0 l1 m0 m1 eq=>?_⟩
    obtain⟨g1,g2⟩:=he q r hq hr
    obtain⟨i1,i2⟩:=onseg q r m
    rw[←eq] at i1 i2
    have j:((at' c d l).x-c.x)*(d.x-c.x)+((at' c d l).y-c.y)*(d.y-c.y)=l*((d.x-c.x)*(d.x-c.x)+(d.y-c.y)*(d.y-c.y)):=by unfold at';dsimp only;grind
    have p3:=mul_nn l0 (b:=(d.x-c.x)*(d.x-c.x)+(d.y-c.y)*(d.y-c.y)) (by grind)
    have k:((at' c d l).x-c.x)*(d.x-c.x)+((at' c d l).y-c.y)*(d.y-c.y)=(1-m)*((q.x-c.x)*(d.x-c.x)+(q.y-c.y)*(d.y-c.y))+m*((r.x-c.x)*(d.x-c.x)+(r.y-c.y)*(d.y-c.y)):=by rw[i1,i2];grind
    generalize (q.x-c.x)*(d.x-c.x)+(q.y-c.y)*(d.y-c.y)=G at *
    generalize (r.x-c.x)*(d.x-c.x)+(r.y-c.y)*(d.y-c.y)=H at *
    have w1:=np_mul (a:=H) (b:=m) (by grind) m0
    rcases Rat.le_iff_lt_or_eq.1 m1 with hm | hm
    ·have w2:=n_mul (a:=G) (b:=1-m) g1 (by grind)
     grind
    subst hm;grind
   exfalso
   obtain⟨z0,z1⟩:=div_mem (c:=-x) (k:=y-x) (by grind) (by grind) (by grind)
   have e:=Rat.div_mul_cancel (a:=-x) (b:=y-x) (by grind)
   exact meet _ z0 z1 (by grind)
  rcases oy with oy | oy
  ·exfalso
   obtain⟨z0,z1⟩:=div_mem (c:=x) (k:=x-y) (by grind) (by grind) (by grind)
   have e:=Rat.div_mul_cancel (a:=x) (b:=x-y) (by grind)
   exact meet _ z0 z1 (by grind)
  have p1:=mul_pp (a:=x-1) (by grind) L
  have p2:=mul_pp (a:=y-1) (by grind) L
  obtain⟨e,e0,he⟩:=two_near (p:=fun q=>(d.x-c.x)*(d.x-c.x)+(d.y-c.y)*(d.y-c.y)<(q.x-c.x)*(d.x-c.x)+(q.y-c.y)*(d.y-c.y)) (q:=fun q=>(d.x-c.x)*(d.x-c.x)+(d.y-c.y)*(d.y-c.y)<(q.x-c.x)*(d.x-c.x)+(q.y-c.y)*(d.y-c.y)) (a:=a) (b:=b)
   (by
    obtain⟨e,e0,he⟩:=near_pos (f:=(a.x-c.x)*(d.x-c.x)+(a.y-c.y)*(d.y-c.y)-((d.x-c.x)*(d.x-c.x)+(d.y-c.y)*(d.y-c.y))) (α:=d.x-c.x) (β:=d.y-c.y) (by rw[dx];grind) a
    exact⟨e,e0,fun q hq=>by have:=he q hq;grind⟩)
   (by
    obtain⟨e,e0,he⟩:=near_pos (f:=(b.x-c.x)*(d.x-c.x)+(b.y-c.y)*(d.y-c.y)-((d.x-c.x)*(d.x-c.x)+(d.y-c.y)*(d.y-c.y))) (α:=d.x-c.x) (β:=d.y-c.y) (by rw[dy];grind) b
    exact⟨e,e0,fun q hq=>by have:=he q hq;grind⟩)
  refine⟨e,e0,fun q r hq hr l m l0 l1 m0 m1 eq=>?_⟩
  obtain⟨g1,g2⟩:=he q r hq hr
  obtain⟨i1,i2⟩:=onseg q r m
  rw[←eq] at i1 i2
  have j:((at' c d l).x-c.x)*(d.x-c.x)+((at' c d l).y-c.y)*(d.y-c.y)=l*((d.x-c.x)*(d.x-c.x)+(d.y-c.y)*(d.y-c.y)):=by unfold at';dsimp only;grind
  have p3:=mul_nn (a:=1-l) (by grind) (b:=(d.x-c.x)*(d.x-c.x)+(d.y-c.y)*(d.y-c.y)) (by grind)
  have k:((at' c d l).x-c.x)*(d.x-c.x)+((at' c d l).y-c.y)*(d.y-c.y)=(1-m)*((q.x-c.x)*(d.x-c.x)+(q.y-c.y)*(d.y-c.y))+m*((r.x-c.x)*(d.x-c.x)+(r.y-c.y)*(d.y-c.y)):=by rw[i1,i2];grind
  generalize (q.x-c.x)*(d.x-c.x)+(q.y-c.y)*(d.y-c.y)=G at *
  generalize (r.x-c.x)*(d.x-c.x)+(r.y-c.y)*(d.y-c.y)=H at *
  generalize (d.x-c.x)*(d.x-c.x)+(d.y-c.y)*(d.y-c.y)=K at *
  have w1:=mul_nn (a:=m) (b:=H-K) m0 (by grind)
  rcases Rat.le_iff_lt_or_eq.1 m1 with hm | hm
  ·have w2:=mul_pp (a:=1-m) (b:=G-K) (by grind) (by grind)
   rw[j] at k
   clear j i1 i2 eq he onseg meet dx dy hx hy hsum p1 p2 h h1 h2 h3 h4 hab z1 z2 hq hr
   grind
  rw[j] at k
  clear j i1 i2 eq he onseg meet dx dy hx hy hsum p1 p2 h h1 h2 h3 h4 hab z1 z2 hq hr
  subst hm;grind
 refine absurd h.swap.rev (meet_of (a:=b) (b:=a) (q:=c) (r:=d) (by grind) (by grind) ?_ ?_ hab)
 ·rw[crs_rev];grind
 rw[crs_rev];grind
theorem near_all2 {p:Nat→RP→RP→Prop} {a b:RP}:∀ {n:Nat},(∀ k,k<n→∃ e:Rat,0<e∧∀ x y,Near e a x→Near e b y→p k x y)→∃ e:Rat,0<e∧∀ x y,Near e a x→Near e b y→∀ k,k<n→p k x y
 | 0,_=>⟨1,by grind,fun _ _ _ _ k hk=>by omega⟩
 | n+1,h=>by
  obtain⟨e,e0,he⟩:=both_near (near_all2 (n:=n) (fun k hk=>h k (by omega))) (h n (by omega))
  refine⟨e,e0,fun x y hx hy k hk=>?_⟩
  by_cases hkn:k=n
  ·subst hkn;exact (he x y hx hy).2
  exact (he x y hx hy).1 k (by omega)
def Free (n:Nat) (P:Nat→RP) (q r:RP):Prop:=∀ k,k<n→Apart (P k) (P (k+1)) q r
inductive Conn (n:Nat) (P:Nat→RP):RP→RP→Prop
 | refl (q:RP):Conn n P q q
 | step {q r s:RP}:Conn n P q r→Free n P r s→Conn n P q s
theorem Apart.turn {a b q r:RP} (h:Apart a b q r):Apart a b r q:=h.swap.rev.swap
theorem Free.symm {n:Nat} {P:Nat→RP} {q r:RP} (h:Free n P q r):Free n P r q:=fun k hk=>(h k hk).turn
theorem Conn.one {n:Nat} {P:Nat→RP} {q r:RP} (h:Free n P q r):Conn n P q r:=.step (.refl q) h
theorem Conn.trans {n:Nat} {P:Nat→RP} {q r s:RP} (h:Conn n P q r) (k:Conn n P r s):Conn n P q s:=by
 induction k with
 | refl=>exact h
 | step _ hf ih=>exact .step ih hf
theorem Conn.symm {n:Nat} {P:Nat→RP} {q r:RP} (h:Conn n P q r):Conn n P r q:=by
 induction h with
 | refl=>exact .refl _
 | step _ hf ih=>exact (Conn.one hf.symm).trans ih
theorem Conn.keep {n:Nat} {P:Nat→RP} {q r:RP} (h:Conn n P q r) (p:RP→Prop) (hp:∀ x y,Free n P x y→p x→p y):p q→p r:=by
 intro hq
 induction h with
 | refl=>exact hq
 | step _ hf ih=>exact hp _ _ hf ih
theorem Free.off {n:Nat} {P:Nat→RP} {q r:RP} (h:Free n P q r):Off n P q∧Off n P r :=
 ⟨fun i l hi l0 l1 e=>h i hi l 0 l0 l1 (by grind) (by grind) (by rw[at0];exact e.symm),fun i l hi l0 l1 e=>h i hi l 1 l0 l1 (by grind) (by grind) (by rw[at1];exact e.symm)⟩
theorem Free.mid {n:Nat} {P:Nat→RP} {q r:RP} (h:Free n P q r) {x:Rat} (x0:0≤x) (x1:x≤1):Off n P (at' q r x) :=
 fun i l hi l0 l1 e=>h i hi l x l0 l1 x0 x1 e.symm
theorem Off.free {n:Nat} {P:Nat→RP} {q r:RP} (h:∀ x:Rat,0≤x→x≤1→Off n P (at' q r x)):Free n P q r :=
 fun i hi l x l0 l1 x0 x1 e=>h x x0 x1 i l hi l0 l1 e.symm
theorem Conn.wind {n:Nat} {P:Nat→RP} (hper:P n=P 0) {q r:RP} (h:Conn n P q r):wind n P q=wind n P r:=by
 induction h with
 | refl=>rfl
 | step _ hf ih=>rw[ih];exact wind_move hper hf
theorem apart_part {a b q r:RP} {x y:Rat} (h:Apart a b q r) (x0:0≤x) (x1:x≤1) (y0:0≤y) (y1:y≤1):Apart a b (at' q r x) (at' q r y):=fun l m l0 l1 m0 m1 e=>by
 rw[at_at] at e
 refine h l (x+m*(y-x)) l0 l1 ?_ ?_ e
 ·have p1:=mul_nn (a:=1-m) (b:=x) (by grind) x0
  have p2:=mul_nn m0 y0
  grind
 have p1:=mul_nn (a:=1-m) (b:=1-x) (by grind) (by grind)
 have p2:=mul_nn (a:=m) (b:=1-y) m0 (by grind)
 grind
def Sign (z:Rat):Prop:=z=1∨z=-1
theorem apart_sign {z:Rat} (hz:Sign z) {a b q m:RP} (hq:0<z*crs a b q) (hm:0≤z*crs a b m) (hoff:∀ l:Rat,0≤l→l≤1→m≠at' a b l):Apart a b q m:=by
 rcases hz with e | e
 ·subst e;exact apart_side (by grind) (by grind) hoff
 subst e;exact apart_side' (by grind) (by grind) hoff
theorem apart_sign2 {z:Rat} (hz:Sign z) {a b q m:RP} (hq:0<z*crs a b q) (hm:0<z*crs a b m):Apart a b q m:=by
 rcases hz with e | e
 ·subst e;exact apart_pos (by grind) (by grind)
 subst e;exact apart_neg (by grind) (by grind)
theorem near_parts (A B q r:RP) {e:Rat} (he:0<e):∃ x:Rat,0<x∧x<1 / 2∧Near e A (at' A q x)∧Near e B (at' B r x):=by
 have key:∀ (A q:RP),∃ x:Rat,0<x∧x<1 / 2∧∀ y,0≤y→y≤x→Near e A (at' A q y):=fun A q=>by
  obtain⟨x,x0,xh,h,_⟩:=small_part A ⟨q.x-A.x,q.y-A.y⟩ ⟨0,0⟩ he
  refine⟨x,x0,xh,fun y y0 y1=>?_⟩
  have hA:Near e A A:=by unfold Near;grind
  have hx:Near e A (at' A q x):=h
  obtain⟨d0,d1⟩:=div_mem (c:=y) x0 y0 y1
  have ed:=Rat.div_mul_cancel (a:=y) (b:=x) (by grind)
  have:=hA.seg hx d0 d1
  have e2:at' A (at' A q x) (y / x)=at' A q y:=by
   have h0:at' (at' A q 0) (at' A q x) (y / x)=at' A q (0+y / x*(x-0)):=at_at _ _ _ _ _
   rw[at0] at h0
   rw[h0]
   congr 1
   grind
  rw[e2] at this
  exact this
 obtain⟨x,x0,xh,hx⟩:=key A q
 obtain⟨y,y0,yh,hy⟩:=key B r
 rcases Rat.le_total (a:=x) (b:=y) with h | h
 ·exact⟨x,x0,xh,hx x (by grind) (by grind),hy x (by grind) h⟩
 exact⟨y,y0,yh,hx y (by grind) h,hy y (by grind) (by grind)⟩
section
variable {n : Nat} {P : Nat → RP}
theorem Simple.slide2 (h:Simple n P) {z:Rat} (hz:Sign z) {i:Nat} (hi:i<n) {q r:RP} (hq:Sees n P z i q) (hr:Sees n P z i r):Conn n P q r:=by
 obtain⟨s,s0,s1,sc,sa⟩:=hq
 obtain⟨t,t0,t1,tc,ta⟩:=hr
 obtain⟨e,e0,he⟩:=near_all2 (n:=n) (a:=at' (P i) (P (i+1)) s) (b:=at' (P i) (P (i+1)) t) (p:=fun k x y=>k≠i→Apart (P k) (P (k+1)) x y) (fun k hk=>by
  by_cases hki:k=i
  ·exact⟨1,by grind,fun _ _ _ _ h=>absurd hki h⟩
  obtain⟨e,e0,he⟩:=apart_near (h.ne k) (a:=at' (P i) (P (i+1)) s) (b:=at' (P i) (P (i+1)) t) (fun l m l0 l1 m0 m1 eq=>by
   rw[at_at] at eq
   refine h.open_off hi hk (Ne.symm hki) (t:=s+m*(t-s)) ?_ ?_ l0 l1 eq.symm
   ·have p1:=mul_nn (a:=1-m) (b:=s) (by grind) (by grind)
    have p2:=mul_nn (a:=m) (b:=t) m0 (by grind)
    rcases Rat.le_iff_lt_or_eq.1 m0 with hm | hm
    ·have:=mul_pp hm t0;grind
    rw[←hm];grind
   have p1:=mul_nn (a:=1-m) (b:=1-s) (by grind) (by grind)
   have p2:=mul_nn (a:=m) (b:=1-t) m0 (by grind)
   rcases Rat.le_iff_lt_or_eq.1 m0 with hm | hm
   ·have:=mul_pp (a:=m) (b:=1-t) hm (by grind);grind
   rw[←hm];grind)
  exact⟨e,e0,fun x y hx hy _=>he x y hx hy⟩)
 obtain⟨x,x0,xh,hx,hy⟩:=near_parts (at' (P i) (P (i+1)) s) (at' (P i) (P (i+1)) t) q r e0
 have first:∀ (t:Rat) (q:RP),0<z*crs (P i) (P (i+1)) q→(∀ k,k<n→k≠i→Apart (P k) (P (k+1)) q (at' (P i) (P (i+1)) t)) →
   0<z*crs (P i) (P (i+1)) (at' (at' (P i) (P (i+1)) t) q x)∧Free n P q (at' (at' (P i) (P (i+1)) t) q x):=fun t q hc ha=>by
  have hcx:0<z*crs (P i) (P (i+1)) (at' (at' (P i) (P (i+1)) t) q x):=by
   rw[crs_lin,crs_at]
   have:=mul_pp x0 hc
   grind
  refine⟨hcx,fun k hk=>?_⟩
  by_cases hki:k=i
  ·subst hki;exact apart_sign2 hz hc hcx
  have:=apart_part (ha k hk hki) (x:=0) (y:=1-x) (by grind) (by grind) (by grind) (by grind)
  rw[at0] at this
  have e2:at' q (at' (P i) (P (i+1)) t) (1-x)=at' (at' (P i) (P (i+1)) t) q x:=by rw[at_rev];congr 1;grind
  rw[e2] at this
  exact this
 obtain⟨c1,f1⟩:=first s q sc sa
 obtain⟨c2,f2⟩:=first t r tc ta
 refine (Conn.one f1).trans ((Conn.one fun k hk=>?_).trans (Conn.one f2.symm))
 by_cases hki:k=i
 ·subst hki;exact apart_sign2 hz c1 c2
 exact he _ _ hx hy k hk hki
theorem lin_no {z A B l m:Rat} (h:l*A=(1-m)*B+m*0) (h1:0≤l*-(z*A)) (h2:0<(1-m)*(z*B)):False:=by
 have:l*-(z*A)=- ((1-m)*(z*B)):=by
  have:l*-(z*A)=- z*(l*A):=by grind
  rw[this,h];grind
 grind
theorem Simple.corner2 (h:Simple n P) {z:Rat} (hz:Sign z) {i j:Nat} (hi:i<n) (hj:j=(i+1) % n):∃ q,Sees n P z i q∧Sees n P z j q:=by
 have h3:=h.three
 have hjn:j<n:=by rw[hj];exact Nat.mod_lt _ (by omega)
 have hB:P j=P (i+1):=by rw[hj];exact h.mod _
 obtain⟨e,e0,hfar⟩:=near_all (n:=n) (b:=P (i+1)) (p:=fun k q=>k≠i→k≠j→∀ l:Rat,0≤l→l≤1→q≠at' (P k) (P (k+1)) l) (fun k hk=>by
  by_cases hki:k=i
  ·exact⟨1,by grind,fun _ _ h=>absurd hki h⟩
  by_cases hkj:k=j
  ·exact⟨1,by grind,fun _ _ _ h=>absurd hkj h⟩
  obtain⟨e,e0,he⟩:=near_off (h.ne k) (b:=P (i+1)) (fun l l0 l1 eq=>by
   have:=h.touch i k hi hk (Ne.symm hki) 1 l (by grind) (by grind) l0 l1 (by rw[at1];exact eq)
   rcases this with ⟨h1,_,_⟩ | ⟨_,h1,_⟩
   ·exact hkj (h1.trans hj.symm)
   grind)
  exact⟨e,e0,fun q hq _ _=>he q hq⟩)
 have far:∀ k,k<n→k≠i→k≠j→∀ q r,Near e (P (i+1)) q→Near e (P (i+1)) r→Apart (P k) (P (k+1)) q r:=fun k hk hki hkj q r hq hr l m l0 l1 m0 m1 eq =>
  hfar _ (hq.seg hr m0 m1) k hk hki hkj l l0 l1 eq.symm
 have hadj:=fun l m l0 l1 m0 m1 e=>h.adj hi hj (l:=l) (m:=m) l0 l1 m0 m1 e
 have hon:=h.on hi hj
 have hij:i≠j:=fun eq=>by
  have:=h.adj hi hj (l:=0) (m:=0) (by grind) (by grind) (by grind) (by grind) (by rw[←eq])
  grind
 rw[hB] at hadj
 obtain⟨t,t0,th,hm,hm'⟩:=small_part (P (i+1)) ⟨(P i).x-(P (i+1)).x,(P i).y-(P (i+1)).y⟩ ⟨(P (j+1)).x-(P (i+1)).x,(P (j+1)).y-(P (i+1)).y⟩ e0
 have em:(⟨(P (i+1)).x+t*((P i).x-(P (i+1)).x),(P (i+1)).y+t*((P i).y-(P (i+1)).y)⟩:RP)=at' (P i) (P (i+1)) (1-t):=by simp only[at',RP.mk.injEq];constructor <;> grind
 have em':(⟨(P (i+1)).x+t*((P (j+1)).x-(P (i+1)).x),(P (i+1)).y+t*((P (j+1)).y-(P (i+1)).y)⟩:RP)=at' (P (i+1)) (P (j+1)) t:=rfl
 dsimp only at hm hm'
 rw[em] at hm
 rw[em'] at hm'
 have off1:∀ k,k<n→k≠i→k≠j→∀ q,Near e (P (i+1)) q→Apart (P k) (P (k+1)) q (at' (P i) (P (i+1)) (1-t)):=fun k hk a b q hq=>far k hk a b q _ hq hm
 have off2:∀ k,k<n→k≠i→k≠j→∀ q,Near e (P (i+1)) q→Apart (P k) (P (k+1)) q (at' (P (i+1)) (P (j+1)) t):=fun k hk a b q hq=>far k hk a b q _ hq hm'
 have c1:crs (P i) (P (i+1)) (at' (P (i+1)) (P (j+1)) t)=t*crs (P i) (P (i+1)) (P (j+1)):=by simp only[crs,at'];grind
 have c2:crs (P (i+1)) (P (j+1)) (at' (P i) (P (i+1)) (1-t))=t*crs (P i) (P (i+1)) (P (j+1)):=by simp only[crs,at'];grind
 have c3:=crs_at (P i) (P (i+1)) (1-t)
 have c4:=crs_at (P (i+1)) (P (j+1)) t
 have hPj:∀ k,k=j→P k=P (i+1)∧P (k+1)=P (j+1):=fun k hk=>by subst hk;exact⟨hB,rfl⟩
 have mo1:∀ l:Rat,0≤l→l≤1→at' (P i) (P (i+1)) (1-t)≠at' (P (i+1)) (P (j+1)) l:=fun l l0 l1 eq=>by
  have:=hadj (1-t) l (by grind) (by grind) l0 l1 eq
  grind
 have mo2:∀ l:Rat,0≤l→l≤1→at' (P (i+1)) (P (j+1)) t≠at' (P i) (P (i+1)) l:=fun l l0 l1 eq=>by
  have:=hadj l t l0 l1 (by grind) (by grind) eq.symm
  grind
 have fin:∀ q,Near e (P (i+1)) q→0<z*crs (P i) (P (i+1)) q→0<z*crs (P (i+1)) (P (j+1)) q →
   Apart (P (i+1)) (P (j+1)) q (at' (P i) (P (i+1)) (1-t))→Apart (P i) (P (i+1)) q (at' (P (i+1)) (P (j+1)) t)→∃ q,Sees n P z i q∧Sees n P z j q:=fun q hn hq1 hq2 a1 a2=>by
  refine⟨q,⟨1-t,by grind,by grind,hq1,fun k hk hki=>?_⟩,⟨t,by grind,by grind,?_,fun k hk hkj=>?_⟩⟩
  ·by_cases hkj:k=j
   ·obtain⟨e1,e2⟩:=hPj k hkj
    rw[e1,e2]
    exact a1
   exact off1 k hk hki hkj _ hn
  ·obtain⟨e1,e2⟩:=hPj j rfl
   rw[e1];exact hq2
  obtain⟨e1,e2⟩:=hPj j rfl
  rw[e1]
  by_cases hki:k=i
  ·subst hki;exact a2
  exact off2 k hk hki hkj _ hn
 have q1:=crs_lin (P i) (P (i+1)) (at' (P i) (P (i+1)) (1-t)) (at' (P (i+1)) (P (j+1)) t) (1 / 2)
 have q2:=crs_lin (P (i+1)) (P (j+1)) (at' (P i) (P (i+1)) (1-t)) (at' (P (i+1)) (P (j+1)) t) (1 / 2)
 rw[c1,c3] at q1
 rw[c2,c4] at q2
 have hmid:=hm.seg hm' (x:=1 / 2) (by grind) (by grind)
 rcases Std.lt_trichotomy (z*crs (P i) (P (i+1)) (P (j+1))) 0 with hc | hc | hc
 ·-- round the outside of the corner
  have p:=n_mul hc t0
  obtain⟨M,hM⟩:∃ M,at' (at' (P i) (P (i+1)) (1-t)) (at' (P (i+1)) (P (j+1)) t) (1 / 2)=M:=⟨_,rfl⟩
  rw[hM] at q1 q2 hmid
  have hrefl:Near e (P (i+1)) ⟨2*(P (i+1)).x-M.x,2*(P (i+1)).y-M.y⟩:=by unfold Near at hmid ⊢;dsimp only;grind
  have r1:crs (P i) (P (i+1)) ⟨2*(P (i+1)).x-M.x,2*(P (i+1)).y-M.y⟩=- crs (P i) (P (i+1)) M:=by unfold crs;dsimp only;grind
  have r2:crs (P (i+1)) (P (j+1)) ⟨2*(P (i+1)).x-M.x,2*(P (i+1)).y-M.y⟩=- crs (P (i+1)) (P (j+1)) M:=by unfold crs;dsimp only;grind
  have g1:0<z*crs (P i) (P (i+1)) ⟨2*(P (i+1)).x-M.x,2*(P (i+1)).y-M.y⟩:=by rw[r1,q1];grind
  have g2:0<z*crs (P (i+1)) (P (j+1)) ⟨2*(P (i+1)).x-M.x,2*(P (i+1)).y-M.y⟩:=by rw[r2,q2];grind
  refine fin _ hrefl g1 g2 (fun l m l0 l1 m0 m1 eq=>?_) (fun l m l0 l1 m0 m1 eq=>?_)
  ·-- on the way crs of the first side keeps its sign,on the next side it has the other one
   have w1:=crs_lin (P i) (P (i+1)) ⟨2*(P (i+1)).x-M.x,2*(P (i+1)).y-M.y⟩ (at' (P i) (P (i+1)) (1-t)) m
   rw[←eq,c3] at w1
   have w2:crs (P i) (P (i+1)) (at' (P (i+1)) (P (j+1)) l)=l*crs (P i) (P (i+1)) (P (j+1)):=by simp only[crs,at'];grind
   rw[w2] at w1
   have w3:=mul_nn (a:=l) (b:=-(z*crs (P i) (P (i+1)) (P (j+1)))) l0 (by grind)
   rcases Rat.le_iff_lt_or_eq.1 m1 with hm | hm
   ·exact lin_no w1 w3 (mul_pp (a:=1-m) (by grind) g1)
   rw[hm,at1] at eq
   exact mo1 l l0 l1 eq.symm
  have w1:=crs_lin (P (i+1)) (P (j+1)) ⟨2*(P (i+1)).x-M.x,2*(P (i+1)).y-M.y⟩ (at' (P (i+1)) (P (j+1)) t) m
  rw[←eq,c4] at w1
  have w2:crs (P (i+1)) (P (j+1)) (at' (P i) (P (i+1)) l)=(1-l)*crs (P i) (P (i+1)) (P (j+1)):=by simp only[crs,at'];grind
  rw[w2] at w1
  have w3:=mul_nn (a:=1-l) (b:=-(z*crs (P i) (P (i+1)) (P (j+1)))) (by grind) (by grind)
  rcases Rat.le_iff_lt_or_eq.1 m1 with hm | hm
  ·exact lin_no w1 w3 (mul_pp (a:=1-m) (by grind) g2)
  rw[hm,at1] at eq
  exact mo2 l l0 l1 eq.symm
 ·-- straight on
  have hc0:crs (P i) (P (i+1)) (P (j+1))=0:=by
   rcases hz with e | e
   ·subst e;grind
   subst e;grind
  have hon:=hon hc0
  obtain⟨s,s0,sh,hs,_⟩:=small_part (P (i+1)) ⟨-(z*((P (i+1)).y-(P i).y)),z*((P (i+1)).x-(P i).x)⟩ ⟨0,0⟩ e0
  dsimp only at hs
  have n1:=h.ne i
  have zz:z*z=1:=by rcases hz with e | e <;> (subst e;grind)
  have g1:0<z*crs (P i) (P (i+1)) ⟨(P (i+1)).x+s*-(z*((P (i+1)).y-(P i).y)),(P (i+1)).y+s*(z*((P (i+1)).x-(P i).x))⟩:=by
   have hsq:0<((P (i+1)).x-(P i).x)*((P (i+1)).x-(P i).x)+((P (i+1)).y-(P i).y)*((P (i+1)).y-(P i).y):=by
    have s1:=sq0 ((P (i+1)).x-(P i).x)
    have s2:=sq0 ((P (i+1)).y-(P i).y)
    refine Rat.not_le.1 fun hz=>n1 ?_
    have z1:((P (i+1)).x-(P i).x)*((P (i+1)).x-(P i).x)=0:=by grind
    have z2:((P (i+1)).y-(P i).y)*((P (i+1)).y-(P i).y)=0:=by grind
    have z1:(P (i+1)).x-(P i).x=0:=by rcases Rat.mul_eq_zero.1 z1 with z | z <;> exact z
    have z2:(P (i+1)).y-(P i).y=0:=by rcases Rat.mul_eq_zero.1 z2 with z | z <;> exact z
    cases h0:P i
    cases h1:P (i+1)
    rw[h0,h1] at z1 z2
    rw[RP.mk.injEq]
    constructor <;> grind
   have hp:=mul_pp s0 hsq
   have:z*crs (P i) (P (i+1)) ⟨(P (i+1)).x+s*-(z*((P (i+1)).y-(P i).y)),(P (i+1)).y+s*(z*((P (i+1)).x-(P i).x))⟩=(z*z)*(s*(((P (i+1)).x-(P i).x)*((P (i+1)).x-(P i).x)+((P (i+1)).y-(P i).y)*((P (i+1)).y-(P i).y))):=by
    unfold crs;dsimp only;grind
   rw[this,zz]
   grind
  have g2:0<z*crs (P (i+1)) (P (j+1)) ⟨(P (i+1)).x+s*-(z*((P (i+1)).y-(P i).y)),(P (i+1)).y+s*(z*((P (i+1)).x-(P i).x))⟩:=by
   have hp:=mul_pp s0 hon
   have:z*crs (P (i+1)) (P (j+1)) ⟨(P (i+1)).x+s*-(z*((P (i+1)).y-(P i).y)),(P (i+1)).y+s*(z*((P (i+1)).x-(P i).x))⟩=(z*z)*(s*(((P (i+1)).x-(P i).x)*((P (j+1)).x-(P (i+1)).x)+((P (i+1)).y-(P i).y)*((P (j+1)).y-(P (i+1)).y))):=by
    unfold crs;dsimp only;grind
   rw[this,zz]
   grind
  exact fin _ hs g1 g2 (apart_sign hz g2 (by rw[c2,hc0];grind) mo1) (apart_sign hz g1 (by rw[c1,hc0];grind) mo2)
 have p:=mul_pp t0 hc
 have g1:0<z*crs (P i) (P (i+1)) (at' (at' (P i) (P (i+1)) (1-t)) (at' (P (i+1)) (P (j+1)) t) (1 / 2)):=by rw[q1];grind
 have g2:0<z*crs (P (i+1)) (P (j+1)) (at' (at' (P i) (P (i+1)) (1-t)) (at' (P (i+1)) (P (j+1)) t) (1 / 2)):=by rw[q2];grind
 exact fin _ hmid g1 g2 (apart_sign hz g2 (by rw[c2];grind) mo1) (apart_sign hz g1 (by rw[c1];grind) mo2)
theorem Simple.sees_conn (h:Simple n P) {z:Rat} (hz:Sign z) {i k:Nat} (hi:i<n) (hk:k<n) {q r:RP} (hq:Sees n P z i q) (hr:Sees n P z k r):Conn n P q r:=by
 have zero:∀ i,i<n→∀ q,Sees n P z i q→∃ r,Sees n P z 0 r∧Conn n P q r:=fun i=>by
  induction i with
  | zero=>intro _ q hq;exact⟨q,hq,.refl q⟩
  | succ i ih =>
   intro hi q hq
   obtain⟨c,c1,c2⟩:=h.corner2 hz (i:=i) (j:=i+1) (by omega) (Nat.mod_eq_of_lt hi).symm
   obtain⟨r,hr,hc⟩:=ih (by omega) c c1
   exact⟨r,hr,(h.slide2 hz hi hq c2).trans hc⟩
 obtain⟨a,ha,ca⟩:=zero i hi q hq
 obtain⟨b,hb,cb⟩:=zero k hk r hr
 exact ca.trans ((h.slide2 hz (by have:=h.three;omega) ha hb).trans cb.symm)
theorem Simple.jordan (h:Simple n P) {q r:RP} (hq:Off n P q) (hr:Off n P r) (hw:wind n P q=wind n P r):Conn n P q r:=by
 obtain⟨i,hi,hs⟩:=h.see hq
 obtain⟨k,hk,ht⟩:=h.see hr
 rcases hs with hs | hs <;> rcases ht with ht | ht
 ·exact h.sees_conn (.inl rfl) hi hk hs ht
 ·have:=h.sees_left hi hs;have:=h.sees_right hk ht;omega
 ·have:=h.sees_right hi hs;have:=h.sees_left hk ht;omega
 exact h.sees_conn (.inr rfl) hi hk hs ht
end
end Geo
end Go.Proofs.YthfokpchdlcidaaGreat
namespace Go.Proofs.YthfokpchdlcidaaGreat
namespace Geo
structure Pos (n:Nat) (P:Nat→RP):Prop where
 sim:Simple n P
 one:lam n P 0=1
def In (n:Nat) (P:Nat→RP) (q:RP):Prop:=Off n P q∧wind n P q=1
def Out (n:Nat) (P:Nat→RP) (q:RP):Prop:=Off n P q∧wind n P q=0
theorem Near.self {e:Rat} (h:0<e) (q:RP):Near e q q:=by unfold Near;grind
theorem left_pt {a b x:RP} (hne:a≠b) (hx:crs a b x=0) {z:Rat} (hz:Sign z) {e:Rat} (he:0<e):∃ q,Near e x q∧0<z*crs a b q:=by
 obtain⟨s,s0,sh,hs,_⟩:=small_part x ⟨-(z*(b.y-a.y)),z*(b.x-a.x)⟩ ⟨0,0⟩ he
 dsimp only at hs
 refine⟨_,hs,?_⟩
 have zz:z*z=1:=by rcases hz with e | e <;> (subst e;grind)
 have hsq:0<(b.x-a.x)*(b.x-a.x)+(b.y-a.y)*(b.y-a.y):=by
  have s1:=sq0 (b.x-a.x)
  have s2:=sq0 (b.y-a.y)
  refine Rat.not_le.1 fun hz=>hne ?_
  have z1:(b.x-a.x)*(b.x-a.x)=0:=by grind
  have z2:(b.y-a.y)*(b.y-a.y)=0:=by grind
  have z1:b.x-a.x=0:=by rcases Rat.mul_eq_zero.1 z1 with z | z <;> exact z
  have z2:b.y-a.y=0:=by rcases Rat.mul_eq_zero.1 z2 with z | z <;> exact z
  cases a;cases b
  rw[RP.mk.injEq]
  constructor <;> grind
 have hp:=mul_pp s0 hsq
 have:z*crs a b ⟨x.x+s*-(z*(b.y-a.y)),x.y+s*(z*(b.x-a.x))⟩=z*crs a b x+(z*z)*(s*((b.x-a.x)*(b.x-a.x)+(b.y-a.y)*(b.y-a.y))):=by
  unfold crs;dsimp only;grind
 rw[this,zz,hx]
 grind
theorem two_left {a b c d x:RP} (hne:(b.x-a.x)*(d.y-c.y)-(b.y-a.y)*(d.x-c.x)≠0) (hx:crs a b x=0) (hy:crs c d x=0) {z y:Rat} (hz:Sign z) (hw:Sign y) {e:Rat} (he:0<e) :
  ∃ q,Near e x q∧0<z*crs a b q∧0<y*crs c d q:=by
 obtain⟨D,hD⟩:∃ D,(b.x-a.x)*(d.y-c.y)-(b.y-a.y)*(d.x-c.x)=D:=⟨_,rfl⟩
 rw[hD] at hne
 obtain⟨g,hg,hgD⟩:∃ g:Rat,Sign g∧0<g*D:=by
  rcases Std.lt_trichotomy D 0 with h | h | h
  ·exact⟨-1,.inr rfl,by grind⟩
  ·exact absurd h hne
  exact⟨1,.inl rfl,by grind⟩
 obtain⟨s,s0,sh,hs,_⟩:=small_part x ⟨z*g*(d.x-c.x)-y*g*(b.x-a.x),z*g*(d.y-c.y)-y*g*(b.y-a.y)⟩ ⟨0,0⟩ he
 dsimp only at hs
 refine⟨_,hs,?_,?_⟩
 ·have zz:z*z=1:=by rcases hz with e | e <;> (subst e;grind)
  have:z*crs a b ⟨x.x+s*(z*g*(d.x-c.x)-y*g*(b.x-a.x)),x.y+s*(z*g*(d.y-c.y)-y*g*(b.y-a.y))⟩=z*crs a b x+(z*z)*(s*(g*((b.x-a.x)*(d.y-c.y)-(b.y-a.y)*(d.x-c.x)))):=by
   unfold crs;dsimp only;grind
  rw[this,zz,hx,hD]
  have:=mul_pp s0 hgD
  grind
 have zz:y*y=1:=by rcases hw with e | e <;> (subst e;grind)
 have:y*crs c d ⟨x.x+s*(z*g*(d.x-c.x)-y*g*(b.x-a.x)),x.y+s*(z*g*(d.y-c.y)-y*g*(b.y-a.y))⟩=y*crs c d x+(y*y)*(s*(g*((b.x-a.x)*(d.y-c.y)-(b.y-a.y)*(d.x-c.x)))):=by
  unfold crs;dsimp only;grind
 rw[this,zz,hy,hD]
 have:=mul_pp s0 hgD
 grind
section
variable {n m : Nat} {P Q : Nat → RP}
theorem Simple.off_ball (h:Simple n P) {q:RP} (hq:Off n P q):∃ e:Rat,0<e∧∀ r s,Near e q r→Near e q s→Free n P r s:=by
 obtain⟨e,e0,he⟩:=near_all (n:=n) (b:=q) (p:=fun k r=>∀ l:Rat,0≤l→l≤1→r≠at' (P k) (P (k+1)) l) (fun k hk=>near_off (h.ne k) (fun l l0 l1 e=>hq k l hk l0 l1 e))
 exact⟨e,e0,fun r s hr hs k hk l m l0 l1 m0 m1 eq=>he _ (hr.seg hs m0 m1) k hk l l0 l1 eq.symm⟩
theorem Simple.off_near (h:Simple n P) {q:RP} (hq:Off n P q):∃ e:Rat,0<e∧∀ r,Near e q r→Off n P r∧wind n P r=wind n P q:=by
 obtain⟨e,e0,he⟩:=h.off_ball hq
 refine⟨e,e0,fun r hr=>?_⟩
 have:=he q r (Near.self e0 q) hr
 exact⟨this.off.2,(wind_move h.close this).symm⟩
theorem Pos.two (h:Pos n P) {q:RP} (hq:Off n P q):In n P q∨Out n P q:=by
 rcases h.sim.wind_two hq with e | e
 ·exact .inl ⟨hq,by rw[e,h.one]⟩
 exact .inr ⟨hq,by rw[e,h.one];rfl⟩
theorem In.not_out {q:RP} (h:In n P q) (k:Out n P q):False:=by have:=h.2;have:=k.2;omega
theorem In.near {q:RP} (h:In n P q) (hs:Simple n P):∃ e:Rat,0<e∧∀ r,Near e q r→In n P r:=by
 obtain⟨e,e0,he⟩:=hs.off_near h.1
 exact⟨e,e0,fun r hr=>⟨(he r hr).1,(he r hr).2.trans h.2⟩⟩
theorem Out.near {q:RP} (h:Out n P q) (hs:Simple n P):∃ e:Rat,0<e∧∀ r,Near e q r→Out n P r:=by
 obtain⟨e,e0,he⟩:=hs.off_near h.1
 exact⟨e,e0,fun r hr=>⟨(he r hr).1,(he r hr).2.trans h.2⟩⟩
theorem Sees.off {z:Rat} {i:Nat} {q:RP} (h:Sees n P z i q):Off n P q:=fun k l hk l0 l1 e=>by
 obtain⟨t,t0,t1,hc,ha⟩:=h
 by_cases hki:k=i
 ·subst hki
  rw[e,crs_at] at hc
  grind
 exact ha k hk hki l 0 l0 l1 (by grind) (by grind) (by rw[at0];exact e.symm)
theorem Pos.side_near (h:Pos n P) {i:Nat} (hi:i<n) {t:Rat} (t0:0<t) (t1:t<1) :
  ∃ e:Rat,0<e∧∀ q,Near e (at' (P i) (P (i+1)) t) q→(0<crs (P i) (P (i+1)) q→In n P q)∧(crs (P i) (P (i+1)) q<0→Out n P q):=by
 obtain⟨e,e0,he⟩:=near_all (n:=n) (b:=at' (P i) (P (i+1)) t) (p:=fun k r=>k≠i→∀ l:Rat,0≤l→l≤1→r≠at' (P k) (P (k+1)) l) (fun k hk=>by
  by_cases hki:k=i
  ·exact⟨1,by grind,fun _ _ h=>absurd hki h⟩
  obtain⟨e,e0,he⟩:=near_off (h.sim.ne k) (b:=at' (P i) (P (i+1)) t) (fun l l0 l1=>h.sim.open_off hi hk (Ne.symm hki) t0 t1 l0 l1)
  exact⟨e,e0,fun q hq _=>he q hq⟩)
 have see:∀ z:Rat,∀ q,Near e (at' (P i) (P (i+1)) t) q→0<z*crs (P i) (P (i+1)) q→Sees n P z i q:=fun z q hq hc =>
  ⟨t,t0,t1,hc,fun k hk hki l m l0 l1 m0 m1 eq=>he _ (hq.seg (Near.self e0 _) m0 m1) k hk hki l l0 l1 eq.symm⟩
 refine⟨e,e0,fun q hq=>⟨fun hc=>?_,fun hc=>?_⟩⟩
 ·have hs:=see 1 q hq (by grind)
  exact⟨hs.off,by rw[h.sim.sees_left hi hs,h.one]⟩
 have hs:=see (-1) q hq (by grind)
 exact⟨hs.off,by rw[h.sim.sees_right hi hs,h.one];rfl⟩
theorem Pos.border_in (h:Pos n P) {i:Nat} (hi:i<n) {l:Rat} (l0:0≤l) (l1:l≤1) {e:Rat} (he:0<e):∃ q,Near e (at' (P i) (P (i+1)) l) q∧In n P q:=by
 obtain⟨t,t0,t1,ht⟩:∃ t:Rat,0<t∧t<1∧Near (e / 2) (at' (P i) (P (i+1)) l) (at' (P i) (P (i+1)) t):=by
  obtain⟨x,x0,xh,hx,_⟩:=near_parts (at' (P i) (P (i+1)) l) (at' (P i) (P (i+1)) l) (at' (P i) (P (i+1)) (1 / 2)) (at' (P i) (P (i+1)) (1 / 2)) (e:=e / 2) (by grind)
  rw[at_at] at hx
  refine⟨_,?_,?_,hx⟩
  ·have:=mul_nn (a:=1-x) (b:=l) (by grind) l0;grind
  have:=mul_nn (a:=1-x) (b:=1-l) (by grind) (by grind);grind
 obtain⟨f,f0,hf⟩:=h.side_near hi t0 t1
 obtain⟨g,g0,ge,gf⟩:∃ g:Rat,0<g∧g≤e / 2∧g≤f:=by
  rcases Rat.le_total (a:=e / 2) (b:=f) with h | h
  ·exact⟨e / 2,by grind,by grind,h⟩
  exact⟨f,f0,h,by grind⟩
 obtain⟨q,hq,hc⟩:=left_pt (h.sim.ne i) (crs_at _ _ t) (.inl rfl) g0
 refine⟨q,?_,(hf q (hq.mono gf)).1 (by grind)⟩
 have:=hq.mono ge
 unfold Near at this ht ⊢
 grind
theorem far_out (n m:Nat) (P Q:Nat→RP):∃ r,Out n P r∧Out m Q r:=by
 obtain⟨M,hM⟩:=max_ex (fun i=>(P i).y) (n+1)
 obtain⟨K,hK⟩:=max_ex (fun i=>(Q i).y) (m+1)
 obtain⟨L,hL,hL'⟩:∃ L:Rat,M≤L∧K≤L:=by
  rcases Rat.le_total (a:=M) (b:=K) with h | h
  ·exact⟨K,h,by grind⟩
  exact⟨M,by grind,h⟩
 have one:∀ (n:Nat) (P:Nat→RP),(∀ i,i<n+1→(P i).y≤L)→Out n P ⟨0,L+1⟩:=fun n P hP=>by
  refine⟨fun i l hi l0 l1 e=>?_,wind_above (fun i hi=>by have:=hP i (by omega);dsimp only;grind)⟩
  have h1:=hP i (by omega)
  have h2:=hP (i+1) (by omega)
  simp only[at',RP.mk.injEq] at e
  have p1:=mul_nn l0 (b:=L-(P (i+1)).y) (by grind)
  have p2:=mul_nn (a:=1-l) (b:=L-(P i).y) (by grind) (by grind)
  grind
 exact⟨⟨0,L+1⟩,one n P (fun i hi=>by have:=hM i hi;grind),one m Q (fun i hi=>by have:=hK i hi;grind)⟩
theorem In.free {q:RP} (h:In n P q) (hs:Simple n P) {r:RP} (hf:Free n P q r):∀ x:Rat,0≤x→x≤1→In n P (at' q r x):=fun x x0 x1=>by
 have hx:Free n P q (at' q r x):=fun k hk=>by
  have:=apart_part (hf k hk) (x:=0) (y:=x) (by grind) (by grind) x0 x1
  rwa [at0] at this
 exact⟨hx.off.2,(wind_move hs.close hx).symm.trans h.2⟩
theorem Simple.const_in (hP:Simple n P) (hQ:Simple m Q) (hno:∀ q,In n P q→Off m Q q) {q r:RP} (hq:In n P q) (hr:In n P r):wind m Q q=wind m Q r:=by
 have hc:=hP.jordan hq.1 hr.1 (hq.2.trans hr.2.symm)
 refine (hc.keep (fun x=>In n P x∧wind m Q q=wind m Q x) (fun x y hf hx=>?_) ⟨hq,rfl⟩).2
 have hin:=hx.1.free hP hf
 have hy:=hin 1 (by grind) (by grind)
 rw[at1] at hy
 refine⟨hy,hx.2.trans (wind_move hQ.close (Off.free fun z z0 z1=>hno _ (hin z z0 z1)))⟩
theorem Simple.const_out (hP:Simple n P) (hQ:Simple m Q) (hsub:∀ q,Off m Q q→Off n P q) {q r:RP} (hq:Out m Q q) (hr:Out m Q r):wind n P q=wind n P r:=by
 have hc:=hQ.jordan hq.1 hr.1 (hq.2.trans hr.2.symm)
 refine hc.keep (fun x=>wind n P q=wind n P x) (fun x y hf hx=>?_) rfl
 exact hx.trans (wind_move hP.close (Off.free fun z z0 z1=>hsub _ (hf.mid z0 z1)))
def Over (n:Nat) (P:Nat→RP) (m:Nat) (Q:Nat→RP):Prop:=∃ q,In n P q∧In m Q q
theorem Over.symm (h:Over n P m Q):Over m Q n P:=by obtain⟨q,h1,h2⟩:=h;exact⟨q,h2,h1⟩
theorem same_in (hP:Pos n P) (hQ:Pos m Q) (h1:∀ q,In n P q→Off m Q q) (h2:∀ q,In m Q q→Off n P q) (ho:Over n P m Q) (q:RP):In n P q↔In m Q q:=by
 obtain⟨c,c1,c2⟩:=ho
 constructor
 ·intro h
  exact⟨h1 q h,(hP.sim.const_in hQ.sim h1 h c1).trans c2.2⟩
 intro h
 exact⟨h2 q h,(hQ.sim.const_in hP.sim h2 h c2).trans c1.2⟩
theorem in_or_apart (hP:Pos n P) (hQ:Pos m Q) (h1:∀ q,In n P q→Off m Q q):(∀ q,In n P q→In m Q q)∨(∀ q,In n P q→Out m Q q):=by
 by_cases h:∃ q,In n P q∧In m Q q
 ·obtain⟨c,c1,c2⟩:=h
  exact .inl fun q hq=>⟨h1 q hq,(hP.sim.const_in hQ.sim h1 hq c1).trans c2.2⟩
 refine .inr fun q hq=>?_
 rcases hQ.two (h1 q hq) with h3 | h3
 ·exact absurd ⟨q,hq,h3⟩ h
 exact h3
theorem not_on (hP:Pos n P) (hQ:Pos m Q) (hout:∀ q,In n P q→Out m Q q) (hsub:∀ q,Off m Q q→Off n P q):False:=by
 have h3:=hP.sim.three
 obtain⟨q,_,hq⟩:=hP.border_in (i:=0) (by omega) (l:=0) (by grind) (by grind) (e:=1) (by grind)
 obtain⟨r,h1,h2⟩:=far_out n m P Q
 have:=hP.sim.const_out hQ.sim hsub (hout q hq) h2
 have:=hq.2
 have:=h1.2
 omega
end
end Geo
end Go.Proofs.YthfokpchdlcidaaGreat
