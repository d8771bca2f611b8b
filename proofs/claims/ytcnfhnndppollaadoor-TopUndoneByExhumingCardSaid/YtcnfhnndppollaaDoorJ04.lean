/- What the statements rest on: definitions and walks, part 04. -/
import Derived.Test.YtcnfhnndppollaaDoorJ03
import Derived.Sort.LoopGhostIn
set_option maxRecDepth 100000
set_option maxHeartbeats 16000000
set_option linter.unusedSimpArgs false
set_option linter.unusedVariables false
namespace Go.Proofs.YtcnfhnndppollaaDoor
open Go Go.RowKit Go.Maps Go.WideMaps
structure BkOk (y:Yd) (l:List Sty):Prop where
 yard:Cal.yardE y=0
 len:l.length≤400
 nm:∀ s∈l,s.lot.remain.size≤maxLen
 sn:∀ s∈l,s.lot.site.size≤maxLen
 num:∀ s∈l,(0≤s.lot.level∧s.lot.level≤11)∧(0≤s.lot.since∧s.lot.since≤200000)∧(0≤s.lot.cont∧s.lot.cont≤2)
 site:∀ s∈l,(s.lot.state=1∨s.lot.state=3)→(Cal.siteOf y.sites s.lot.site).isSome=true
def natV (i:Nat):Value:=.int .i64 (i:Int)
def lastF (l:List Sty) (x:List UInt8):Option Value:=(Cal.lastIx l ⟨x.toArray⟩ 0).map natV
theorem lastF_name (l:List Sty) (n:ByteArray):lastF l n.data.toList=(Cal.lastIx l n 0).map natV:=by
 unfold lastF
 have:(⟨n.data.toList.toArray⟩:ByteArray)=n:=by simp
 rw[this]
structure BkR (w:World) (B M:Nat) (S R:Option Addr) (c d:Nat) (y:Yd) (A:Option Addr) (cap:Nat) (bk:Bk):Prop where
 box:BoxAt w B [.slice S y.sites.length c,.slice R y.rests.length d,.int .i64 y.c0,.int .i64 y.c1,.int .i64 y.c2,.slice A bk.stays.length cap,.map (some M),.int .i64 bk.day]
 rows:RowsAt w A 7 (bk.stays.map Sty.cells)
 map:∃ n,MapIs Tryd.prog 9 strLit w M n (lastF bk.stays)
 mlt:M<w.heap.size
 yd:YdIn w S R y
 ok:BkOk y bk.stays
theorem BkR.below {w w':World} {B M:Nat} {S R:Option Addr} {c d:Nat} {y:Yd} {A:Option Addr} {cap:Nat} {bk:Bk} (h:BkR w B M S R c d y A cap bk) (hb:Below w.heap.size w w'):BkR w' B M S R c d y A cap bk:=by
 obtain⟨n,hm⟩:=h.map
 exact⟨h.box.below hb,h.rows.below hb,⟨n,hm.below hb h.mlt⟩,Nat.lt_of_lt_of_le h.mlt hb.size,h.yd.below hb,h.ok⟩
theorem stay_at {w:World} {A:Option Addr} {l:List Sty} (h:RowsAt w A 7 (l.map Sty.cells)) {k:Nat} {s:Sty} (hk:l[k]?=some s) :
  ∃ b o,A=some ⟨b,o,none⟩∧b<w.heap.size∧w.cell? ⟨b,o+k*7,none⟩=some (.string s.lot.remain)∧w.cell? ⟨b,o+k*7+1,none⟩=some (.int .i64 s.lot.state)∧w.cell? ⟨b,o+k*7+2,none⟩=some (.string s.lot.site)∧w.cell? ⟨b,o+k*7+3,none⟩=some (.int .i64 s.lot.level)∧w.cell? ⟨b,o+k*7+4,none⟩=some (.int .i64 s.lot.cont)∧w.cell? ⟨b,o+k*7+5,none⟩=some (.int .i64 s.lot.since)∧w.cell? ⟨b,o+k*7+6,none⟩=some (.int .i64 s.til):=by
 obtain⟨b,o,hA,hb,hc⟩:=h k s.cells (by rw[List.getElem?_map,hk];rfl)
 exact⟨b,o,hA,hb,hc 0 _ rfl,hc 1 _ rfl,hc 2 _ rfl,hc 3 _ rfl,hc 4 _ rfl,hc 5 _ rfl,hc 6 _ rfl⟩
theorem Cal.lastIx_lt:∀ {l:List Sty} {n:ByteArray} {i k:Nat},Cal.lastIx l n i=some k→i≤k∧k<i+l.length
 | [],_,_,_,h=>by cases h
 | s :: r,n,i,k,h=>by
  unfold Cal.lastIx at h
  cases h2:Cal.lastIx r n (i+1) with
  | some j =>
   rw[h2] at h
   simp only[Option.some.injEq] at h
   subst h
   have:=Cal.lastIx_lt h2
   simp only[List.length_cons]
   omega
  | none =>
   rw[h2] at h
   simp only at h
   split at h
   ·cases h
    simp only[List.length_cons]
    omega
   cases h
theorem intZero (w:World):(zeroValue 3).run Tryd.prog w=.ok (.int .i64 0) w:=by kernel_rfl
theorem ltSz:(Tryd.prog.info? 38).map (·.size)=some 6:=by kernel_rfl
theorem BkR.look {w:World} {B M:Nat} {S R:Option Addr} {c d:Nat} {y:Yd} {A:Option Addr} {cap:Nat} {bk:Bk} (h:BkR w B M S R c d y A cap bk) (n:ByteArray) (hn:n.size≤maxLen) :
  (Instr.lookup 84 (.map (some M)) (.string n) true).run Tryd.prog w=.ok (.tuple #[((Cal.lastIx bk.stays n 0).map natV).getD (.int .i64 0),.bool (Cal.lastIx bk.stays n 0).isSome]) w:=by
 obtain⟨m,hm⟩:=h.map
 rw[hm.look_ok (string_keyed Tryd.underlying9) Tryd.underlying84 (intZero _) (keyOf_string_mk Tryd.underlying9 hn),lastF_name]
 simp
def lotD (o:Option Lot):Lot:=o.getD Cal.lot0
def LotP (w:World) (o:Option Lot) (e:Ending) (w':World):Prop:=e=.returned (.tuple #[.agg #[.string (lotD o).remain,.int .i64 (lotD o).state,.string (lotD o).site,.int .i64 (lotD o).level,.int .i64 (lotD o).cont,.int .i64 (lotD o).since],.bool o.isSome])∧Below w.heap.size w w'
theorem lot_any (B M:Nat) (S R:Option Addr) (c d:Nat) (y:Yd) (A:Option Addr) (cap:Nat) (bk:Bk) (n:ByteArray) (w:World) (hB:BkR w B M S R c d y A cap bk) (hn:n.size≤maxLen) :
  Calls Tryd.prog 21 #[.pointer (some ⟨B,0,none⟩),.string n] w (LotP w (Cal.lotOf bk.stays n)):=by
 have hB1:=Lib.hid (hB.below (below_alloc w (.cells #[.string ⟨#[]⟩,.int .i64 0,.string ⟨#[]⟩,.int .i64 0,.int .i64 0,.int .i64 0] 38)))
 have g0:=Lib.hid (BoxAt.new w #[.string ⟨#[]⟩,.int .i64 0,.string ⟨#[]⟩,.int .i64 0,.int .i64 0,.int .i64 0] 38)
 have hb0:=Lib.hid (below_alloc w (.cells #[.string ⟨#[]⟩,.int .i64 0,.string ⟨#[]⟩,.int .i64 0,.int .i64 0,.int .i64 0] 38))
 have b6:=hB1.out.box.c 6 _ rfl;have b5:=hB1.out.box.c 5 _ rfl
 have hlk:=hB1.out.look n hn
 cases hl:Cal.lastIx bk.stays n 0 with
 | none =>
  have hf:Hid (Cal.lotOf bk.stays n=none):=by show _=_;unfold Cal.lotOf;rw[hl];rfl
  rw[hl] at hlk
  simp only[Option.map_none,Option.getD_none,Option.isSome_none] at hlk
  clear hl hB
  go_enter Tryd.func21,Tryd.ntmps21
  go_wp2_with (refine wpList_store_box rfl 38 (.tmp 4) (.tmp 19) rfl (w.heap.size) _ [.string ⟨#[]⟩,.int .i64 0,.string ⟨#[]⟩,.int .i64 0,.int .i64 0,.int .i64 0] (by rfl) (by rfl) g0.out rfl ltSz (by kernel_rfl) ?_;intro w4 h4 hg4)
  refine bodyPost_ret (results_mid2 rfl _ _ w.heap.size [.string ⟨#[]⟩,.int .i64 0,.string ⟨#[]⟩,.int .i64 0,.int .i64 0,.int .i64 0] _ rfl h4.range Tryd.underlying38 rfl ltSz) rfl ?_
  rw[hf.out]
  exact⟨rfl,below_of_grownB hb0.out hg4 (Nat.le_refl _)⟩
 | some i =>
  have hlt:=(Cal.lastIx_lt hl).2
  rw[Nat.zero_add] at hlt
  have hk:=List.getElem?_eq_getElem hlt
  have hf:Hid (Cal.lotOf bk.stays n=some bk.stays[i].lot):=by show _=_;unfold Cal.lotOf;rw[hl];show (bk.stays[i]?).map _=_;rw[hk];rfl
  have hlen:=hB.ok.len
  rw[hl] at hlk
  simp only[Option.map_some,Option.getD_some,Option.isSome_some,natV] at hlk
  obtain⟨b,o,rfl,hbl,s0,s1,s2,s3,s4,s5,s6⟩:=stay_at hB1.out.rows hk
  generalize bk.stays[i]=s at *
  clear hl hB hk
  go_enter Tryd.func21,Tryd.ntmps21
  go_wp2_with (refine wpList_store_box rfl 38 (.tmp 4) (.tmp 27) rfl (w.heap.size) _ [.string s.lot.remain,.int .i64 s.lot.state,.string s.lot.site,.int .i64 s.lot.level,.int .i64 s.lot.cont,.int .i64 s.lot.since] (by rfl) (by rfl) g0.out rfl ltSz (by kernel_rfl) ?_;intro w4 h4 hg4)
  refine bodyPost_ret (results_mid2 rfl _ _ w.heap.size [.string s.lot.remain,.int .i64 s.lot.state,.string s.lot.site,.int .i64 s.lot.level,.int .i64 s.lot.cont,.int .i64 s.lot.since] _ rfl h4.range Tryd.underlying38 rfl ltSz) rfl ?_
  rw[hf.out]
  exact⟨rfl,below_of_grownB hb0.out hg4 (Nat.le_refl _)⟩
end Go.Proofs.YtcnfhnndppollaaDoor
namespace Go.Proofs.YtcnfhnndppollaaDoor
open Go Go.RowKit
def SeqRawB {β:Type} (F:Fence) (n:Nat) (P:Program) (gf:Nat) (fb:Array Value) (encs:β→Array Value) (next:β→β) (Inv:β→World→Prop) (Step Ask:β→World→World→Prop) (End:β→Prop) (s0:β):Prop :=
 ∀ (l:Nat) (J:β→World→Prop) (Jx:World→Prop) (W:World),(∀ s A,J s A→Inv s A)→(∀ s A B,J s A→Step s A B→J (next s) B) →
  (∀ s A B,J s A→Ask s A B→YieldAt F (n-1) P l (encs s) B fun e W'=>(e=.returned (.bool true)∧J (next s) W')∨(e=.returned (.bool false)∧Jx W')) →
  J s0 W→CallsIn F n P gf (fb ++ #[.func (.yield l) #[] #[]]) W fun e W'=>(∃ v,e=.returned v)∧((∃ s,End s∧J s W')∨Jx W')
variable {F : Fence} {n : Nat} {P : Program}
theorem wpIn_rangeFunc_rawB {β:Type} {g:Operand} {ps:Array Tmp} {assign body:Code} {Q:Exit→Act→World→Prop} {a:Act} {w:World}
  (hro:F.round=none) (h1:1≤n) {gf:Nat} {fb:Array Value} (hg:a.eval g=.func (.func gf) fb #[]) (hFg:F.fn gf) (eg:∀ args w,(callFunc gf args).run P w=.ok (.enter gf args) w)
  {encs:β→Array Value} {next:β→β} {Inv:β→World→Prop} {Step Ask:β→World→World→Prop} {End:β→Prop} {s0:β}
  (hseq:SeqRawB F (n-1) P gf fb encs next Inv Step Ask End s0) (hps:∀ x,(encs x).size=ps.size)
  (hkS:∀ s A B (k:Nat) (o:Obj),Inv s A→(Step s A B∨Ask s A B)→A.heap[k]?=some o→isBook o=true→B.heap[k]?=some o)
  (I IA:β→World→Prop) (Ix:Code→World→Prop)
  (hIInv:∀ s A,I s A→Inv s A) (hIS:∀ s A B,I s A→Step s A B→I (next s) B) (hIA:∀ s A B,I s A→Ask s A B→IA s B)
  (hI1:∀ s A o,isBook o=true→I s A→I s (A.alloc o))
  (hI2:∀ s A (l:Nat) (o o':Obj),w.heap.size≤l→A.heap[l]?=some o→isBook o=true→isBook o'=true→I s A→I s (A.putObj l o'))
  (IB:β→Act→World→Prop) (hIB2:∀ s a' A (l:Nat) (o o':Obj),w.heap.size≤l→A.heap[l]?=some o→isBook o=true→isBook o'=true→IB s a' A→IB s a' (A.putObj l o'))
  (hIx2:∀ c A (l:Nat) (o o':Obj),w.heap.size≤l→A.heap[l]?=some o→isBook o=true→isBook o'=true→Ix c A→Ix c (A.putObj l o'))
  (h0:I s0 w)
  (hassign:∀ (l:Nat) (x:β) (W:World) (K:Act→World→Prop),IA x W→(∀ a' W',KeepsOthers W W'→IB x a' W'→K a' W') →
   assign.wpIn (F.inRound l) (n-1-1) P (Exit.then K (fun _ _ _=>False)) { tmps:=(ps.zip (encs x)).foldl (fun t (p,v)=>t.setIfInBounds p v) a.tmps,defers:=[] } W)
  (hbody:∀ (l:Nat) (x:β) (a':Act) (W:World),IB x a' W→body.wpIn (F.inRound l) (n-1-1) P (rawPost (I (next x)) Ix W) a' W)
  (hdone:∀ (D:Nat) (s:β) (W:World),End s→I s W→w.heap.size≤D→W.heap[D]?=some (.deferred (some []))→Q .normal { a with defers:={ target:=.collected D,args:=#[] } :: a.defers } W)
  (hstop:∀ (D:Nat) (c:Code) (W:World),Ix c W→w.heap.size≤D→W.heap[D]?=some (.deferred (some []))→c.wpIn F n P Q { a with defers:={ target:=.collected D,args:=#[] } :: a.defers } W) :
  (Code.rangeFunc g ps assign body).wpIn F n P Q a w:=by
 refine wpIn_rangeFunc ?_
 intro fn hfn
 rw[hro]
 obtain⟨rec,hrec⟩:∃ rec:LoopState→Option Code→Loop,rec=fun st pe=>{ state:=st,pending:=pe,fn,tmps:=a.tmps,params:=ps,assign,body,defers:=w.heap.size }:=⟨_,rfl⟩
 obtain⟨Z1,hZ1⟩:∃ Z1,(w.alloc (.deferred (some []))).alloc (.loop (rec .ready none))=Z1:=⟨_,rfl⟩
 have hL1:Z1.heap[w.heap.size+1]?=some (.loop (rec .ready none)):=by
  rw[←hZ1];have:=World.alloc_heap_new (w.alloc (.deferred (some []))) (.loop (rec .ready none));rwa [World.size_alloc] at this
 have hK1:Z1.heap[w.heap.size]?=some (.deferred (some [])):=by
  rw[←hZ1];exact (Below.heap_alloc _ _ _ (by simp)).trans (World.alloc_heap_new w _)
 have hI1':I s0 Z1:=by rw[←hZ1];exact hI1 _ _ _ rfl (hI1 _ _ _ rfl h0)
 refine⟨w.heap.size+1,[{ target:=.collected w.heap.size,args:=#[] }],Z1,{ target:=.fn (.func gf) #[],args:=fb ++ #[.func (.yield (w.heap.size+1)) #[] #[]] },Z1,gf,
  fb ++ #[.func (.yield (w.heap.size+1)) #[] #[]],Z1,?_,?_,?_,?_,fun _=>h1,?_⟩
 ·rw[←hZ1,hrec];exact run_enterLoop_outer _ _ _ _ _
 ·simp only[resolve,hg]
  simp[go_sem]
 ·intro f' hf';simp[Target.leads] at hf';subst hf';exact hFg
 ·simp[invoke,go_sem,eg]
 refine (hseq (w.heap.size+1)
  (fun s W=>I s W∧W.heap[w.heap.size+1]?=some (.loop (rec .ready none))∧W.heap[w.heap.size]?=some (.deferred (some [])))
  (fun W=>∃ c,Ix c W∧W.heap[w.heap.size+1]?=some (.loop (rec .done (some c)))∧W.heap[w.heap.size]?=some (.deferred (some [])))
  Z1 (fun s A h=>hIInv s A h.1)
  (fun s A B h hs=>⟨hIS s A B h.1 hs,hkS s A B _ _ (hIInv s A h.1) (.inl hs) h.2.1 rfl,hkS s A B _ _ (hIInv s A h.1) (.inl hs) h.2.2 rfl⟩)
  ?_ ⟨hI1',hL1,hK1⟩).mono ?_
 ·rintro x A W ⟨hi,hl0,hk0⟩ hask
  have hl:=hkS x A W _ _ (hIInv x A hi) (.inr hask) hl0 rfl
  have hk:=hkS x A W _ _ (hIInv x A hi) (.inr hask) hk0 rfl
  have hia:=hIA x A W hi hask
  have hlt:w.heap.size+1<W.heap.size:=(Array.getElem?_eq_some_iff.1 hl).1
  have hy:=run_yield (P:=P) (args:=encs x) hl (by rw[hrec];exact hps x)
  rw[hrec] at hy
  refine⟨fn,_,assign,body,hy,roundIn_of_wpIn hfn (hassign _ x W _ hia (fun a' X9 hk9 hib=>?_))⟩
  have hl9:=hk9.same _ _ hl rfl
  have hkk9:=hk9.same _ _ hk rfl
  have hlt9:w.heap.size+1<X9.heap.size:=(Array.getElem?_eq_some_iff.1 hl9).1
  refine⟨_,run_beginRound hl9 (by rw[hrec]),?_⟩
  have hl2:(X9.putObj (w.heap.size+1) (.loop { rec .ready none with state:=.busy })).heap[w.heap.size+1]?=some (.loop { rec .ready none with state:=.busy }):=World.putObj_heap_same hlt9
  have hk2:(X9.putObj (w.heap.size+1) (.loop { rec .ready none with state:=.busy })).heap[w.heap.size]?=some (.deferred (some [])):=(World.putObj_heap_other (by omega)).trans hkk9
  refine wpIn_mono (hbody _ x a' _ (hIB2 _ _ _ _ _ _ (by omega) hl9 rfl rfl hib)) ?_
  have fin:∀ (jump:Option Code) (Z3:World),KeepsOthers (X9.putObj (w.heap.size+1) (.loop { rec .ready none with state:=.busy })) Z3 →
    (Instr.endRound (w.heap.size+1) jump).run P Z3=.ok (.bool jump.isNone) (Z3.putObj (w.heap.size+1) (.loop (rec (if jump.isNone then .ready else .done) jump))) ∧
    Z3.heap[w.heap.size+1]?=some (.loop { rec .ready none with state:=.busy }) ∧
    (Z3.putObj (w.heap.size+1) (.loop (rec (if jump.isNone then .ready else .done) jump))).heap[w.heap.size+1]?=some (.loop (rec (if jump.isNone then .ready else .done) jump)) ∧
    (Z3.putObj (w.heap.size+1) (.loop (rec (if jump.isNone then .ready else .done) jump))).heap[w.heap.size]?=some (.deferred (some [])):=fun jump Z3 hk3=>by
   have hl3:=hk3.same _ _ hl2 rfl
   have:=run_endRound (P:=P) jump hl3
   rw[hrec] at this ⊢
   exact⟨this,by rw[hrec] at hl3;exact hl3,World.putObj_heap_same (Array.getElem?_eq_some_iff.1 hl3).1,(World.putObj_heap_other (by omega)).trans (hk3.same _ _ hk2 rfl)⟩
  rintro e a3 Z3 hp
  cases e with
  | normal =>
   obtain⟨hk3,hi3⟩:=hp
   obtain⟨hr,hl3,hl4,hk4⟩:=fin none Z3 hk3
   exact⟨_,_,hr,.inl ⟨rfl,hI2 _ _ _ _ _ (by omega) hl3 rfl rfl hi3,hl4,hk4⟩⟩
  | ret =>
   obtain⟨hk3,hi3⟩:=hp
   obtain⟨hr,hl3,hl4,hk4⟩:=fin (some .ret) Z3 hk3
   exact⟨_,_,hr,.inr ⟨rfl,.ret,hIx2 _ _ _ _ _ (by omega) hl3 rfl rfl hi3,hl4,hk4⟩⟩
  | exit id =>
   obtain⟨hk3,hi3⟩:=hp
   obtain⟨hr,hl3,hl4,hk4⟩:=fin (some (.exit id)) Z3 hk3
   exact⟨_,_,hr,.inr ⟨rfl,.exit id,hIx2 _ _ _ _ _ (by omega) hl3 rfl rfl hi3,hl4,hk4⟩⟩
  | goto t =>
   obtain⟨hk3,hi3⟩:=hp
   obtain⟨hr,hl3,hl4,hk4⟩:=fin (some (.goto t)) Z3 hk3
   exact⟨_,_,hr,.inr ⟨rfl,.goto t,hIx2 _ _ _ _ _ (by omega) hl3 rfl rfl hi3,hl4,hk4⟩⟩
  | panic ch=>exact hp.elim
  | outgrown=>exact hp.elim
 rintro e Z2 ⟨⟨v,rfl⟩,(⟨s,hE,hi,hl,hk⟩ | ⟨c,hi,hl,hk⟩)⟩
 ·exact⟨none,_,by have:=run_endLoop (P:=P) hl (by rw[hrec];simp);rw[hrec] at this;exact this,hdone _ s _ hE (hI2 _ _ _ _ _ (by omega) hl rfl rfl hi) (Nat.le_refl _) ((World.putObj_heap_other (by omega)).trans hk)⟩
 exact⟨some c,_,by have:=run_endLoop (P:=P) hl (by rw[hrec];simp);rw[hrec] at this;exact this,hstop _ c _ (hIx2 _ _ _ _ _ (by omega) hl rfl rfl hi) (Nat.le_refl _) ((World.putObj_heap_other (by omega)).trans hk)⟩
end Go.Proofs.YtcnfhnndppollaaDoor
namespace Go.Proofs.YtcnfhnndppollaaDoor
open Go Go.RowKit Go.Shelf
theorem wpListF_append_rows {F:Fence} {n0:Nat} {P:Program} {t e:TypeId} {m bytes:Nat} (el:Elem P t e m bytes) {w:World} {ops:Array Oper} {rest:List Oper} {o:Oper} {a:Act} {Q:Exit→Act→World→Prop} (hg:o.guard=none) (s x:Operand)
  (hop:o.op=Op.call { callee:=Callee.builtin Builtin.append,args:=#[s,x],argTypes:=#[t,t] }) {v:Value} {A:Option Addr} {n c:Nat} (hs:a.eval s=v) (hx:a.eval x=.slice A n c)
  {B:Nat} {rows:List (List Value)} (h:OwnL w B e m v rows) {rows2:List (List Value)} (h2:RowsAt w A m rows2) (hn:n=rows2.length) (hw:∀ r∈rows2,r.length=m) (h1:∀ r∈rows2,∀ u∈r,u.oneCell'=true)
  (h63:rows.length+rows2.length≤4000000000) (hby:bytes≤10000) (hbase:B≤w.heap.size)
  (hK:∀ v' w',OwnL w' B e m v' (rows ++ rows2)→w.grownBy w' v.ownBlock→(v'.ownBlock=v.ownBlock∨v'.ownBlock=some w.heap.size)→wpListIn F n0 P ops Q rest (a.put o.dst v') w'):wpListIn F n0 P ops Q (o :: rest) a w:=by
 refine wpListIn_plain hg fun K hK'=>?_
 obtain⟨v',w',hrun,h3,h4,h5⟩:=run_append_rows el o.type h h2 hn hw h1 h63 hby hbase
 unfold Oper.wpIn
 refine⟨?_,?_⟩
 ·simp[Oper.about,hop,resolve,Target.leads,Sem.run_pure]
 rw[Oper.semAt_plain F _ _ (by rw[hop];intro c hc';cases hc')]
 simp only[execOp,hop,resolve,invoke,builtin,Sem.run_bind,Sem.run_pure,Result.andThen_ok,List.map_toArray,List.map_cons,List.map_nil,hs,hx]
 rw[hrun]
 exact hK' _ _ (hK v' w' h3 h4 h5)
theorem OwnL.keptF {W W':World} {row:Option Nat} {B:Nat} {E:TypeId} {m:Nat} {v:Value} {rows:List (List Value)} (h:OwnL W B E m v rows) (hg:W.grownBy W' row) (hr:Others W row):OwnL W' B E m v rows:=by
 refine h.kept hg ?_
 rcases h.own.2 with ⟨rfl,_⟩ | ⟨g,cap,cur,rfl,_,hh,_⟩
 ·exact .inl rfl
 right
 intro e
 obtain⟨o,ho,hc⟩:=hr g (by rw[←e];rfl)
 rw[hh] at ho
 cases ho
 cases hc
theorem BoxAt.keptF {W W':World} {row:Option Nat} {B:Nat} {cs:List Value} (h:BoxAt W B cs) (hg:W.grownBy W' row) (hr:Others W row):BoxAt W' B cs :=
 ⟨fun j v hv=>cell_kept (h.range j v hv) hg hr,fun j hj=>by
  obtain⟨v,hv⟩:∃ v,cs[j]?=some v:=⟨_,List.getElem?_eq_getElem hj⟩
  have:=h.range j v hv
  rw[Nat.zero_add] at this
  exact (frozen_kept this hg hr).trans (h.free j hj),Nat.lt_of_lt_of_le h.lt hg.size⟩
theorem OwnL.keepsF {W W':World} {B:Nat} {E:TypeId} {m:Nat} {v:Value} {rows:List (List Value)} (h:OwnL W B E m v rows) (hg:W.grownBy W' v.ownBlock):KeepsOthers W W':=by
 refine KeepsOthers.of_grownBy hg fun j o e ho=>?_
 rcases h.own.2 with ⟨rfl,_⟩ | ⟨g,cap,cur,rfl,_,hh,_⟩
 ·cases e
 cases e
 rw[hh] at ho
 cases ho;rfl
theorem OwnL.offF {w:World} {B B':Nat} {E:TypeId} {m:Nat} {v:Value} {rows:List (List Value)} (h:OwnL w B E m v rows) (o:Nat) (u:Value) (hne:B'<B):OwnL (w.setCell ⟨B',o,none⟩ u) B E m v rows:=by
 refine OwnL.kept h (grown_set _ B' o _) ?_
 cases hv:v.ownBlock with
 | none=>exact .inl rfl
 | some g=>right;intro e;have:=(h.lt g hv).1;injection e with e;omega
theorem BoxAt.offF {w:World} {B B':Nat} {cs:List Value} (h:BoxAt w B cs) (o:Nat) (v:Value) (hne:B≠B'):BoxAt (w.setCell ⟨B',o,none⟩ v) B cs:=h.grown (grown_set w B' o v) (fun e=>hne (by cases e;rfl))
theorem belowF_put {w W:World} (h:Below w.heap.size w W) {D:Nat} (hD:w.heap.size≤D) (o:Obj):Below w.heap.size w (W.putObj D o) :=
 h.grown (grownBy_putObj' W D o) h.size (fun k e=>by cases e;exact hD)
end Go.Proofs.YtcnfhnndppollaaDoor
namespace Go.Proofs.YtcnfhnndppollaaDoor
open Go Go.RowKit Go.Shelf Go.Maps
attribute [local go_sem] Oper.semAt_some
def sty0:Sty:=⟨Cal.lot0,0⟩
def stAt (l:List Sty) (i:Nat):Sty:=(l[i]?).getD sty0
theorem stAt_get {l:List Sty} {i:Nat} (h:i<l.length):l[i]?=some (stAt l i):=by unfold stAt;rw[List.getElem?_eq_getElem h];rfl
structure LtInv (B M:Nat) (S R:Option Addr) (c d:Nat) (y:Yd) (A:Option Addr) (cap:Nat) (bk:Bk) (i:Nat) (W:World):Prop where
 le:i≤bk.stays.length
 bk:BkR W B M S R c d y A cap bk
def LtStep (bk:Bk) (i:Nat) (X Y:World):Prop:=i<bk.stays.length∧¬(stAt bk.stays i).til<0∧Y=X.alloc (.cells #[.string (stAt bk.stays i).lot.remain,.int .i64 (stAt bk.stays i).lot.state,.string (stAt bk.stays i).lot.site,.int .i64 (stAt bk.stays i).lot.level,.int .i64 (stAt bk.stays i).lot.cont,.int .i64 (stAt bk.stays i).lot.since,.int .i64 (stAt bk.stays i).til] 88)
def LtAsk (bk:Bk) (i:Nat) (X Y:World):Prop:=i<bk.stays.length∧(stAt bk.stays i).til<0∧Y=X.alloc (.cells #[.string (stAt bk.stays i).lot.remain,.int .i64 (stAt bk.stays i).lot.state,.string (stAt bk.stays i).lot.site,.int .i64 (stAt bk.stays i).lot.level,.int .i64 (stAt bk.stays i).lot.cont,.int .i64 (stAt bk.stays i).lot.since,.int .i64 (stAt bk.stays i).til] 88)
def LtPost (N:Nat) (J:Nat→World→Prop) (Jx:World→Prop) (e:Ending) (W':World):Prop:=(∃ v,e=.returned v)∧((∃ s,s=N∧J s W')∨Jx W')
theorem lots_raw (B M:Nat) (S R:Option Addr) (c d:Nat) (y:Yd) (A:Option Addr) (cap:Nat) (bk:Bk) (n:Nat) (hn:1≤n) :
  SeqRawB Fence.wide n Tryd.prog 41 #[.pointer (some ⟨B,0,none⟩)] (fun i:Nat=>#[.agg #[.string (stAt bk.stays i).lot.remain,.int .i64 (stAt bk.stays i).lot.state,.string (stAt bk.stays i).lot.site,.int .i64 (stAt bk.stays i).lot.level,.int .i64 (stAt bk.stays i).lot.cont,.int .i64 (stAt bk.stays i).lot.since]]) (fun i=>i+1) (LtInv B M S R c d y A cap bk) (LtStep bk) (LtAsk bk) (fun i=>i=bk.stays.length) 0:=by
 intro l J Jx W hInv hStep hAsk h0
 show CallsIn Fence.wide n Tryd.prog 41 _ W (LtPost bk.stays.length J Jx)
 refine callsIn_of_wp Tryd.func41 rfl trivial ?_ rfl
 simp only[Tryd.ntmps41,List.size_toArray,List.length_cons,List.length_nil,Nat.reduceAdd,Nat.reduceSub,Array.replicate_succ,Array.replicate_zero,List.push_toArray,List.append_toArray,List.nil_append,List.cons_append]
 have hB0:=(hInv _ _ h0).bk
 have b5:=hB0.box.c 5 _ rfl
 have hlen:=hB0.ok.len
 have hInv:=Lib.hid hInv
 have hAsk:=Lib.hid hAsk
 have hStep:=Lib.hid hStep
 clear hB0
 gi_wp2
 gi_loopw [5,11] (fun _ i wr=>∃ k:Nat,k≤bk.stays.length∧i=.int .i64 k∧J k wr) (fun _ i _=>bk.stays.length-(intOf i).toNat)
 case atStart=>exact⟨0,Nat.zero_le _,rfl,h0⟩
 case round =>
  obtain⟨k,hk,rfl,hJ⟩:=hrel
  clear h0 b5
  by_cases hlt:k<bk.stays.length
  ·have hB:=(hInv.out _ _ hJ).bk
   have hk':=stAt_get hlt
   obtain⟨b,o,rfl,hbl,s0,s1,s2,s3,s4,s5,s6⟩:=stay_at hB.rows hk'
   have hst:=Lib.hid (hStep.out k wr)
   have hask:=Lib.hid (hAsk.out k wr)
   have hJ:=Lib.hid hJ
   clear hk' hB hInv hAsk hStep
   by_cases ht:(stAt bk.stays k).til<0
   ·have hq:=decide_eq_true ht
    have hy1:=hask.out _ hJ.out ⟨hlt,ht,rfl⟩
    clear ht hask hst
    generalize stAt bk.stays k=s at *
    obtain⟨fn,tmps,assign,body,hy,hR⟩:=hy1
    gi_wp2_with fail
    refine hR.mono ?_
    clear hy hR
    rintro e w2 (⟨rfl,hJ2⟩ | ⟨rfl,hJx⟩)
    ·have hJ2:=Lib.hid hJ2
     gi_wp2
     go_roundw
     case rel=>exact⟨k+1,by omega,by go_num,hJ2.out⟩
     case measure=>simp[intOf];omega
    have hJx:=Lib.hid hJx
    gi_wp2
    refine bodyPost_ret (results_none rfl _ _ _) rfl ?_
    exact⟨⟨_,rfl⟩,.inr hJx.out⟩
   have hq:=decide_eq_false ht
   have hJ2:=Lib.hid (hst.out _ hJ.out ⟨hlt,ht,rfl⟩)
   clear ht hask hst
   generalize stAt bk.stays k=s at *
   gi_wp2
   refine⟨by simp,?_⟩
   gi_wp2
   go_roundw
   case rel=>exact⟨k+1,by omega,by go_num,hJ2.out⟩
   case measure=>simp[intOf];omega
  obtain rfl:k=bk.stays.length:=by omega
  have hJ:=Lib.hid hJ
  gi_wp2
  refine bodyPost_end (results_none rfl _ _ _) rfl ?_
  exact⟨⟨_,rfl⟩,.inl ⟨_,rfl,hJ.out⟩⟩
end Go.Proofs.YtcnfhnndppollaaDoor
namespace Go.Proofs.YtcnfhnndppollaaDoor
open Go Go.RowKit Go.Shelf Go.Maps
attribute [local go_sem] Oper.semAt_some
theorem results_cell1 {P:Program} {fn:Func} {t:Tmp} {ty:TypeId} (h:fn.results=#[.cell t ty]) (tmps:Array Value) (w:World) (b:Addr) (v:Value)
  (hq:tmps.getD t undef=.pointer (some b)) (hv:(loadVar ty b).run P w=.ok v w):(results fn tmps).run P w=.ok v w:=by
 have hq':tmps[t]?.getD undef=.pointer (some b):=by simpa using hq
 simp[results,h,hq',asAddr,hv]
theorem othersBook {W:World} {l:Nat} {o:Obj} (h:W.heap[l]?=some o) (hb:isBook o=true):Others W (some l):=fun r e=>by cases e;exact⟨o,h,not_cells_of_book hb⟩
structure OcI (Z0:World) (bk:Bk) (site:ByteArray) (lo hi:Int) (i:Nat) (W:World):Prop where
 le:i≤bk.stays.length
 no:(bk.stays.take i).any (Cal.lying site lo hi)=false
 bel:Below Z0.heap.size Z0 W
theorem OcI.below {Z0:World} {bk:Bk} {site:ByteArray} {lo hi:Int} {i:Nat} {X Y:World} (h:OcI Z0 bk site lo hi i X) (hb:Below X.heap.size X Y):OcI Z0 bk site lo hi i Y:=⟨h.le,h.no,h.bel.trans (hb.mono h.bel.size)⟩
theorem OcI.put {Z0:World} {bk:Bk} {site:ByteArray} {lo hi:Int} {i:Nat} {X:World} (h:OcI Z0 bk site lo hi i X) {l:Nat} (hl:Z0.heap.size≤l) (o:Obj):OcI Z0 bk site lo hi i (X.putObj l o):=⟨h.le,h.no,belowF_put h.bel hl o⟩
theorem lying_step {l:List Sty} {i:Nat} (h:i<l.length) (site:ByteArray) (lo hi:Int):(l.take (i+1)).any (Cal.lying site lo hi)=((l.take i).any (Cal.lying site lo hi) || Cal.lying site lo hi (stAt l i)):=by
 have hk:=stAt_get h
 rw[List.take_add_one,List.any_append,hk]
 simp
theorem lying_hit {l:List Sty} {i:Nat} (h:i<l.length) {site:ByteArray} {lo hi:Int} (h2:Cal.lying site lo hi (stAt l i)=true):Cal.occB l site lo hi=true:=by
 unfold Cal.occB
 rw[List.any_eq_true]
 exact⟨_,List.mem_of_getElem? (stAt_get h),h2⟩
theorem occupied_any (B M:Nat) (S R:Option Addr) (c d:Nat) (y:Yd) (A:Option Addr) (cap:Nat) (bk:Bk) (site:ByteArray) (lo hi:Int) (w:World) (hB:BkR w B M S R c d y A cap bk) :
  Calls Tryd.prog 57 #[.pointer (some ⟨B,0,none⟩),.string site,.int .i64 lo,.int .i64 hi] w fun e w'=>e=.returned (.bool (Cal.occB bk.stays site lo hi))∧Below w.heap.size w w':=by
 refine (callsIn_wide (n:=4)).1 ?_
 refine callsIn_of_wp_marks Tryd.func57 rfl trivial ?_ rfl
 simp only[Tryd.ntmps57,List.size_toArray,List.length_cons,List.length_nil,Nat.reduceAdd,Nat.reduceSub,Array.replicate_succ,Array.replicate_zero,List.push_toArray,List.append_toArray,List.nil_append,List.cons_append]
 have hmf:∀ (fn:Fn) (first cap:Array Value) (w:World),(Instr.makeFunc fn first cap).run Tryd.prog w=.ok (.func fn first cap) w:=fun _ _ _ _=>rfl
 gi_wp2
 have b0:=(((BoxAt.new w #[.string site] 9).alloc (.cells #[.int .i64 lo] 3)).alloc (.cells #[.int .i64 hi] 3)).alloc (.cells #[.bool false] 4)
 have b1:=((BoxAt.new (w.alloc (.cells #[.string site] 9)) #[.int .i64 lo] 3).alloc (.cells #[.int .i64 hi] 3)).alloc (.cells #[.bool false] 4)
 have b2:=(BoxAt.new ((w.alloc (.cells #[.string site] 9)).alloc (.cells #[.int .i64 lo] 3)) #[.int .i64 hi] 3).alloc (.cells #[.bool false] 4)
 have b3:=BoxAt.new (((w.alloc (.cells #[.string site] 9)).alloc (.cells #[.int .i64 lo] 3)).alloc (.cells #[.int .i64 hi] 3)) #[.bool false] 4
 have hb0:Below w.heap.size w ((((w.alloc (.cells #[.string site] 9)).alloc (.cells #[.int .i64 lo] 3)).alloc (.cells #[.int .i64 hi] 3)).alloc (.cells #[.bool false] 4)):=below_step (below_step (below_step (below_alloc _ _) (below_alloc _ _)) (below_alloc _ _)) (below_alloc _ _)
 have hsz:(((((w.alloc (.cells #[.string site] 9)).alloc (.cells #[.int .i64 lo] 3)).alloc (.cells #[.int .i64 hi] 3)).alloc (.cells #[.bool false] 4))).heap.size=w.heap.size+1+1+1+1:=by simp only[World.size_alloc]
 simp only[World.size_alloc] at b1 b2 b3
 obtain⟨Z0,hZ0⟩:∃ Z0,((((w.alloc (.cells #[.string site] 9)).alloc (.cells #[.int .i64 lo] 3)).alloc (.cells #[.int .i64 hi] 3)).alloc (.cells #[.bool false] 4))=Z0:=⟨_,rfl⟩
 rw[hZ0] at b0 b1 b2 b3 hb0 hsz ⊢
 clear hZ0
 have hBZ:=hB.below hb0
 have bz0:=Lib.hid b0
 have bz1:=Lib.hid b1
 have bz2:=Lib.hid b2
 have bz3:=Lib.hid b3
 have hBz:=Lib.hid hBZ
 have hb0:=Lib.hid hb0
 clear b0 b1 b2 b3
 refine wpIn_rangeFunc_rawB rfl (by omega) (gf:=41) (fb:=#[.pointer (some ⟨B,0,none⟩)]) rfl trivial (enters_of Tryd.func41 (by kernel_rfl) rfl)
  (lots_raw B M S R c d y A cap bk 3 (by omega)) (fun _=>rfl)
  (fun s X Y k o _ hs hk _=>by
   have e:Y=X.alloc (.cells #[.string (stAt bk.stays s).lot.remain,.int .i64 (stAt bk.stays s).lot.state,.string (stAt bk.stays s).lot.site,.int .i64 (stAt bk.stays s).lot.level,.int .i64 (stAt bk.stays s).lot.cont,.int .i64 (stAt bk.stays s).lot.since,.int .i64 (stAt bk.stays s).til] 88):=by rcases hs with h | h <;> exact h.2.2
   subst e
   exact (Below.heap_alloc _ _ _ (Array.getElem?_eq_some_iff.1 hk).1).trans hk)
  (OcI Z0 bk site lo hi) (fun i W=>OcI Z0 bk site lo hi i W∧i<bk.stays.length∧(stAt bk.stays i).til<0)
  (fun c W=>c=.ret∧Cal.occB bk.stays site lo hi=true∧BoxAt W (w.heap.size+1+1+1) [.bool true]∧Below w.heap.size w W)
  (fun s X h=>⟨h.le,hBz.out.below h.bel⟩)
  (fun s X Y h hs=>by
   obtain⟨h1,h2,rfl⟩:=hs
   refine OcI.below ⟨by omega,?_,h.bel⟩ (below_alloc _ _)
   rw[lying_step h1,h.no]
   simp[Cal.lying,h2])
  (fun s X Y h hs=>by
   obtain⟨h1,h2,rfl⟩:=hs
   exact⟨h.below (below_alloc _ _),h1,h2⟩)
  (fun s X o _ h=>h.below (below_alloc _ _))
  (fun s X l o o' hl _ _ _ h=>h.put hl o')
  (fun i a' W=>(OcI Z0 bk site lo hi i W∧i<bk.stays.length∧(stAt bk.stays i).til<0)∧∃ Bx,Z0.heap.size≤Bx∧BoxAt W Bx [.string (stAt bk.stays i).lot.remain,.int .i64 (stAt bk.stays i).lot.state,.string (stAt bk.stays i).lot.site,.int .i64 (stAt bk.stays i).lot.level,.int .i64 (stAt bk.stays i).lot.cont,.int .i64 (stAt bk.stays i).lot.since]∧a'={ tmps:=#[.pointer (some ⟨B,0,none⟩),.string site,.int .i64 lo,.int .i64 hi,undef,.pointer (some ⟨w.heap.size,0,none⟩),.pointer (some ⟨w.heap.size+1,0,none⟩),.pointer (some ⟨w.heap.size+1+1,0,none⟩),.pointer (some ⟨w.heap.size+1+1+1,0,none⟩),.pointer (some ⟨Bx,0,none⟩),.pointer (some ⟨B,0,none⟩),.func (.func 41) #[.pointer (some ⟨B,0,none⟩)] #[],.agg #[.string (stAt bk.stays i).lot.remain,.int .i64 (stAt bk.stays i).lot.state,.string (stAt bk.stays i).lot.site,.int .i64 (stAt bk.stays i).lot.level,.int .i64 (stAt bk.stays i).lot.cont,.int .i64 (stAt bk.stays i).lot.since],undef,undef,undef,undef,undef,undef,undef,undef,undef,undef,undef,undef,undef,undef,undef,undef],defers:=[] })
  (fun s a' X l o o' hl hX ho _ h=>by
   obtain⟨⟨h1,h2,h3⟩,Bx,h4,h5,h6⟩:=h
   exact⟨⟨h1.put hl o',h2,h3⟩,Bx,h4,h5.keptF (grownBy_putObj' X l o') (othersBook hX ho),h6⟩)
  (fun c X l o o' hl hX ho _ h=>by
   obtain⟨h1,h2,h3,h4⟩:=h
   exact⟨h1,h2,h3.keptF (grownBy_putObj' X l o') (othersBook hX ho),belowF_put h4 (by have:=hb0.out.size;omega) o'⟩)
  ⟨Nat.zero_le _,by simp,Below.refl _ _⟩ ?assign ?body ?done ?stop
 case assign =>
  rintro l k W K ⟨hI,h1,h2⟩ hK
  gi_wp2
  exact hK _ _ (KeepsOthers.alloc _ _) ⟨⟨hI.below (below_alloc _ _),h1,h2⟩,W.heap.size,hI.bel.size,BoxAt.new W #[.string (stAt bk.stays k).lot.remain,.int .i64 (stAt bk.stays k).lot.state,.string (stAt bk.stays k).lot.site,.int .i64 (stAt bk.stays k).lot.level,.int .i64 (stAt bk.stays k).lot.cont,.int .i64 (stAt bk.stays k).lot.since] _,rfl⟩
 case body =>
  rintro l k a' W ⟨⟨hI,h1,h2⟩,Bx,hBx,bX,rfl⟩
  have hZs:=hb0.out.size
  have z0:=(bz0.out.below hI.bel).c 0 _ rfl
  have z1:=(bz1.out.below hI.bel).c 0 _ rfl
  have z2:=(bz2.out.below hI.bel).c 0 _ rfl
  have z3:=(bz3.out.below hI.bel).c 0 _ rfl
  have f3:=(bz3.out.below hI.bel).free 0 Nat.zero_lt_one
  have x1:=bX.c 1 _ rfl;have x2:=bX.c 2 _ rfl;have x3:=bX.c 3 _ rfl
  have hno:=hI.no
  have hst:=lying_step h1 site lo hi
  have hhit:=Lib.hid (fun h=>lying_hit (site:=site) (lo:=lo) (hi:=hi) h1 h)
  have hI2:Hid (Cal.lying site lo hi (stAt bk.stays k)=false→OcI Z0 bk site lo hi (k+1) W):=fun h=>⟨by omega,by rw[hst,hno,h];rfl,hI.bel⟩
  have hse:=Lib.hid ((bz3.out.below hI.bel).set 0 (.bool true) Nat.zero_lt_one)
  have hbel:=Lib.hid ((hb0.out.trans (hI.bel.mono hZs)).setCell (p:=⟨w.heap.size+1+1+1,0,none⟩) (by show w.heap.size≤w.heap.size+1+1+1;omega) (.bool true))
  have ht:=decide_eq_true h2
  clear hno hst hI bX h2 hB hBx
  generalize stAt bk.stays k=s at *
  by_cases q1:s.lot.state=1
  ·have q1b:(s.lot.state == 1)=true:=by simp[q1]
   by_cases q2:s.lot.site=site
   ·have q2b:=name_yes q2
    by_cases q3:lo≤s.lot.level∧s.lot.level≤hi
    ·have hh:Hid (Cal.occB bk.stays site lo hi=true):=hhit.out (by unfold Cal.lying;rw[ht];simp[q1,q2,q3])
     clear q1 q2 hhit hI2
     gi_wp2_with (refine⟨trivial,?_⟩;gi_at_call 37;refine (callsIn_wide.2 (calls_in (vwithin_any _ _ _ _) q3.1 q3.2)).mono ?_;rintro e w' ⟨rfl,rfl⟩)
     exact⟨KeepsOthers.setCell _ _ _,rfl,hh.out,hse.out,hbel.out⟩
    have hh:=hI2.out (by unfold Cal.lying;simp[q1,q2];intro _;omega)
    have hh:=Lib.hid hh
    clear q1 q2 hhit hI2
    gi_wp2_with (refine⟨trivial,?_⟩;gi_at_call 37;refine (callsIn_wide.2 (calls_out (vwithin_any _ _ _ _) q3)).mono ?_;rintro e w' ⟨rfl,rfl⟩)
    exact⟨KeepsOthers.refl _,hh.out⟩
   have q2b:=name_no q2
   have hh:=Lib.hid (hI2.out (by unfold Cal.lying;simp[q2]))
   clear q1 q2 hhit hI2
   gi_wp2
   refine⟨trivial,?_⟩
   gi_wp2
   exact⟨KeepsOthers.refl _,hh.out⟩
  have q1b:(s.lot.state == 1)=false:=by simp[q1]
  have hh:=Lib.hid (hI2.out (by unfold Cal.lying;simp[q1]))
  clear q1 hhit hI2
  gi_wp2
  refine⟨trivial,?_⟩
  gi_wp2
  exact⟨KeepsOthers.refl _,hh.out⟩
 case done =>
  rintro D s W rfl hI hD hK
  have hZs:=hb0.out.size
  have z3:=(bz3.out.below hI.bel).c 0 _ rfl
  have f3:=(bz3.out.below hI.bel).free 0 Nat.zero_lt_one
  have hf:Hid (Cal.occB bk.stays site lo hi=false):=by show _=_;have:=hI.no;rw[List.take_length] at this;exact this
  have hse:=Lib.hid ((bz3.out.below hI.bel).set 0 (.bool false) Nat.zero_lt_one)
  have hbel:=Lib.hid ((hb0.out.trans (hI.bel.mono hZs)).setCell (p:=⟨w.heap.size+1+1+1,0,none⟩) (by show w.heap.size≤w.heap.size+1+1+1;omega) (.bool false))
  have hKD:Hid ((W.setCell ⟨w.heap.size+1+1+1,0,none⟩ (.bool false)).heap[D]?=some (.deferred (some []))):=(Below.heap_setCell _ ⟨w.heap.size+1+1+1,0,none⟩ _ D (by show D≠w.heap.size+1+1+1;omega)).trans hK
  clear hI hK
  gi_wp2
  obtain⟨X,hX⟩:∃ X,W.setCell ⟨w.heap.size+1+1+1,0,none⟩ (.bool false)=X:=⟨_,rfl⟩
  rw[hX] at hse hbel hKD ⊢
  refine⟨by simp,.inl ⟨_,_,rfl,run_takeDeferred hKD.out,?_⟩⟩
  have r0:=(hse.out.keptF (grownBy_putObj' X D (.deferred none)) (othersBook hKD.out rfl)).c 0 _ rfl
  refine⟨_,results_cell1 rfl _ _ ⟨w.heap.size+1+1+1,0,none⟩ (.bool false) rfl (by simp[go_sem,r0]),?_,belowF_put hbel.out (by omega) _⟩
  rw[hf.out]
 case stop =>
  rintro D c W ⟨rfl,h1,h2,h3⟩ hD hK
  have hZs:=hb0.out.size
  replace h1:=Lib.hid h1
  have hAll:=Lib.hid (And.intro h2 h3)
  clear h2 h3
  gi_wp2
  refine⟨by simp,.inl ⟨_,_,rfl,run_takeDeferred hK,?_⟩⟩
  have r0:=(hAll.out.1.keptF (grownBy_putObj' W D (.deferred none)) (othersBook hK rfl)).c 0 _ rfl
  refine⟨_,results_cell1 rfl _ _ ⟨w.heap.size+1+1+1,0,none⟩ (.bool true) rfl (by simp[go_sem,r0]),?_,belowF_put hAll.out.2 (by omega) _⟩
  first | rfl | rw[h1.out]
end Go.Proofs.YtcnfhnndppollaaDoor
namespace Go.Proofs.YtcnfhnndppollaaDoor
open Go Go.RowKit Go.Maps
structure SiteC (W:World) (qb qo:Nat) (s:Site):Prop where
 lt:qb<W.heap.size
 rg:W.rangeAt qb qo s.cells
theorem SiteC.below {W W':World} {qb qo:Nat} {s:Site} (h:SiteC W qb qo s) (hb:Below W.heap.size W W'):SiteC W' qb qo s :=
 ⟨Nat.lt_of_lt_of_le h.lt hb.size,fun j u hu=>(World.cell?_of_block (a:=⟨qb,qo+j,none⟩) (hb.block qb h.lt)).trans (h.rg j u hu)⟩
theorem SiteC.c {W:World} {qb qo:Nat} {s:Site} (h:SiteC W qb qo s):W.cell? ⟨qb,qo,none⟩=some (.string s.name)∧W.cell? ⟨qb,qo+1,none⟩=some (.int .i64 s.kind)∧W.cell? ⟨qb,qo+2,none⟩=some (.int .i64 s.soil)∧W.cell? ⟨qb,qo+3,none⟩=some (.int .i64 s.depth)∧W.cell? ⟨qb,qo+4,none⟩=some (.int .i64 s.step)∧W.cell? ⟨qb,qo+5,none⟩=some (.int .i64 s.room) :=
 ⟨h.rg 0 _ rfl,h.rg 1 _ rfl,h.rg 2 _ rfl,h.rg 3 _ rfl,h.rg 4 _ rfl,h.rg 5 _ rfl⟩
theorem covered_any (B M:Nat) (S R:Option Addr) (c d:Nat) (y:Yd) (A:Option Addr) (cap:Nat) (bk:Bk) (s:Site) (l:Int) (w:World) (hB:BkR w B M S R c d y A cap bk) (l0:-1000≤l) (l1:l≤1000) :
  Calls Tryd.prog 60 #[.pointer (some ⟨B,0,none⟩),.agg #[.string s.name,.int .i64 s.kind,.int .i64 s.soil,.int .i64 s.depth,.int .i64 s.step,.int .i64 s.room],.int .i64 l] w fun e w'=>e=.returned (.bool (Cal.covB bk.stays s l))∧Below w.heap.size w w':=by
 have hb0:=Lib.hid (below_alloc w (.cells #[.string s.name,.int .i64 s.kind,.int .i64 s.soil,.int .i64 s.depth,.int .i64 s.step,.int .i64 s.room] 53))
 have hB1:=Lib.hid (hB.below (below_alloc w (.cells #[.string s.name,.int .i64 s.kind,.int .i64 s.soil,.int .i64 s.depth,.int .i64 s.step,.int .i64 s.room] 53)))
 clear hB
 by_cases h0:s.kind=0
 ·have q0:(s.kind == 0)=true:=by simp[h0]
  have hf:Hid (Cal.covB bk.stays s l=Cal.occB bk.stays s.name (l+1) 12):=by show _=_;unfold Cal.covB;simp[h0]
  clear h0
  go_enter Tryd.func60,Tryd.ntmps60
  go_wp2_with (go_at_call 57;refine (occupied_any B M S R c d y A cap bk s.name (l+1) 12 _ hB1.out).mono ?_;rintro e wn ⟨rfl,hbn⟩;have hb:=Lib.hid (below_step hb0.out hbn);clear hbn)
  go_ret
  exact⟨ret_bool hf.out.symm,hb.out⟩
 have q0:(s.kind == 0)=false:=by simp[h0]
 have hf:Hid (Cal.covB bk.stays s l=false):=by show _=_;unfold Cal.covB;simp[h0]
 clear h0
 go_enter Tryd.func60,Tryd.ntmps60
 go_wp2
 go_ret
 exact⟨ret_bool hf.out.symm,hb0.out⟩
structure PlI (w:World) (B M:Nat) (S R:Option Addr) (c d:Nat) (y:Yd) (A:Option Addr) (cap:Nat) (bk:Bk) (qb qo:Nat) (s:Site) (W:World):Prop where
 bk:BkR W B M S R c d y A cap bk
 st:SiteC W qb qo s
 bel:Below w.heap.size w W
theorem PlI.below {w:World} {B M:Nat} {S R:Option Addr} {c d:Nat} {y:Yd} {A:Option Addr} {cap:Nat} {bk:Bk} {qb qo:Nat} {s:Site} {W W':World} (h:PlI w B M S R c d y A cap bk qb qo s W) (hb:Below W.heap.size W W'):PlI w B M S R c d y A cap bk qb qo s W':=⟨h.bk.below hb,h.st.below hb,below_step h.bel hb⟩
theorem siteErr_of {y:Yd} (h:Cal.yardE y=0) {n:ByteArray} {s:Site} (hs:Cal.siteOf y.sites n=some s):Cal.siteErr s=0:=by
 have hm:=List.mem_of_find?_eq_some hs
 have h1:Cal.sitesErr [] y.sites=0:=by
  unfold Cal.yardE at h
  split at h
  ·cases h
  split at h
  ·exact h
  rename_i h2;simpa using h2
 have:∀ (l seen:List Site),Cal.sitesErr seen l=0→∀ q∈l,Cal.siteErr q=0:=by
  intro l
  induction l with
  | nil=>intro _ _ q hq;cases hq
  | cons a r ih =>
   intro seen h q hq
   unfold Cal.sitesErr at h
   split at h
   ·rename_i h2;exact absurd h h2
   rename_i h2
   split at h
   ·cases h
   rcases List.mem_cons.1 hq with rfl | hq
   ·simpa using h2
   exact ih _ h q hq
 exact this _ _ h1 s hm
theorem restOf_bd {y:Yd} (h:Cal.yardE y=0) (a b:Int):0≤Cal.restOf y.rests a b∧Cal.restOf y.rests a b≤100000:=by
 have h1:Cal.restsE [] y.rests=0:=by
  unfold Cal.yardE at h
  split at h
  ·cases h
  split at h
  ·rename_i h2;exact absurd h h2
  split at h
  ·cases h
  split at h
  ·exact h
  rename_i h2;simpa using h2
 have hall:∀ (l seen:List Rst),Cal.restsE seen l=0→∀ q∈l,0≤q.days∧q.days≤100000:=by
  intro l
  induction l with
  | nil=>intro _ _ q hq;cases hq
  | cons r t ih =>
   intro seen h q hq
   unfold Cal.restsE at h
   split at h
   ·cases h
   rename_i h2
   split at h
   ·cases h
   rcases List.mem_cons.1 hq with rfl | hq
   ·unfold Cal.restBad at h2;omega
   exact ih _ h q hq
 unfold Cal.restOf
 split
 ·rename_i r hr
  exact hall _ _ h1 r (List.mem_of_find?_eq_some hr)
 omega
theorem place_any (B M:Nat) (S R:Option Addr) (c d:Nat) (y:Yd) (A:Option Addr) (cap:Nat) (bk:Bk) (site:ByteArray) (l cont:Int) (w:World) (hB:BkR w B M S R c d y A cap bk) (l0:0≤l) (l1:l≤1000) (n0:0≤cont) (n1:cont≤2) :
  Calls Tryd.prog 39 #[.pointer (some ⟨B,0,none⟩),.string site,.int .i64 l,.int .i64 cont] w fun e w'=>e=.returned (.int .i64 (Cal.placeE y bk.stays site l cont))∧Below w.heap.size w w':=by
 obtain⟨b0,b1,b2,b3⟩:=hB.box.c4;have b4:=hB.box.c 4 _ rfl
 have hso:=siteOf_any S R c d y site w hB.yd.sites hB.yd.slen
 have hBz:=Lib.hid hB
 have hso:=Lib.hid hso
 clear hB
 cases hs:Cal.siteOf y.sites site with
 | none =>
  have hf:Hid (Cal.placeE y bk.stays site l cont=6):=by show _=_;unfold Cal.placeE;rw[hs]
  rw[hs] at hso
  clear hs
  go_enter Tryd.func39,Tryd.ntmps39
  go_wp2_with fail
  refine hso.out.mono ?_
  rintro e wn ⟨v,rfl,hv,hbn⟩
  obtain rfl:v=.pointer none:=hv
  go_wp2
  go_ret
  exact⟨ret_int hf.out.symm,hbn⟩
 | some s =>
  rw[hs] at hso
  have hsm:=Lib.hid (SiteSm.of (.inl (siteErr_of hBz.out.ok.yard hs)))
  have hfE:Hid (Cal.placeE y bk.stays site l cont=if s.room≤l then 2 else if Cal.takesB y s l cont=false then 15 else if Cal.occB bk.stays site l l then 16 else if Cal.covB bk.stays s l then 18 else 0):=by show _=_;unfold Cal.placeE;rw[hs]
  clear hs
  go_enter Tryd.func39,Tryd.ntmps39
  by_cases hr:s.room≤l
  ·have hf:Hid (Cal.placeE y bk.stays site l cont=2):=by show _=_;rw[hfE.out,if_pos hr]
   go_wp2_with (go_at_call 55;clear b0 b1 b2 b3 b4;refine hso.out.mono ?_;rintro e wn ⟨v,rfl,hv,hbn⟩;obtain⟨qb,qo,rfl,hql,hqr⟩:=hv;have hP:Hid (PlI w B M S R c d y A cap bk qb qo s wn):=⟨hBz.out.below hbn,SiteC.below ⟨hql,hqr⟩ hbn,hbn⟩;clear hql hqr hbn hso hBz;(obtain⟨b0,b1,b2,b3⟩:=hP.out.bk.box.c4;have b4:=hP.out.bk.box.c 4 _ rfl;obtain⟨q0,q1,q2,q3,q4,q5⟩:=hP.out.st.c))
   go_ret
   exact⟨ret_int hf.out.symm,hP.out.bel⟩
  rw[if_neg hr] at hfE
  have hr':l<s.room:=by omega
  clear hr
  go_wp2_with (go_at_call 55;clear b0 b1 b2 b3 b4;refine hso.out.mono ?_;rintro e wn ⟨v,rfl,hv,hbn⟩;obtain⟨qb,qo,rfl,hql,hqr⟩:=hv;have hP:Hid (PlI w B M S R c d y A cap bk qb qo s wn):=⟨hBz.out.below hbn,SiteC.below ⟨hql,hqr⟩ hbn,hbn⟩;clear hql hqr hbn hso hBz;(obtain⟨b0,b1,b2,b3⟩:=hP.out.bk.box.c4;have b4:=hP.out.bk.box.c 4 _ rfl;obtain⟨q0,q1,q2,q3,q4,q5⟩:=hP.out.st.c))
  clear b0 b1 b2 b3 b4 q0 q1 q2 q3 q4 q5
  refine wp_region_held_drew (S:=Sx w [(B,0,.slice S y.sites.length c),(B,1,.slice R y.rests.length d),(B,2,.int .i64 y.c0),(B,3,.int .i64 y.c1),(B,4,.int .i64 y.c2),(qb,qo,.string s.name),(qb,qo+1,.int .i64 s.kind),(qb,qo+2,.int .i64 s.soil),(qb,qo+3,.int .i64 s.depth),(qb,qo+4,.int .i64 s.step),(qb,qo+5,.int .i64 s.room)]) (by kernel_rfl) (Sx.mk (by (obtain⟨b0,b1,b2,b3⟩:=hP.out.bk.box.c4;have b4:=hP.out.bk.box.c 4 _ rfl;obtain⟨q0,q1,q2,q3,q4,q5⟩:=hP.out.st.c);simp only[cs_iff_cons];exact⟨b0,b1,b2,b3,b4,q0,q1,q2,q3,q4,q5,cs_nil _⟩) (hP.out.bel.trans (Below.refl _ _).drew)) (fun hHeld=>?_)
  refine tkHx 0 27 ?_
  refine tkHx 1 28 ?_
  refine tkHx 2 29 ?_
  refine tkHx 3 30 ?_
  refine tkHx 4 31 ?_
  refine tkHx 5 32 ?_
  refine tkHx 6 33 ?_
  refine tkHx 7 34 ?_
  refine tkHx 8 35 ?_
  (refine ratHx 9 (fun K hK=>?_);go_simp)
  refine (takes_any S R c d y s l cont _ hsm.out (by omega) (by omega) n0 n1).mono ?_
  rintro e wm ⟨rfl,hbm⟩
  replace hP:=Lib.hid (hP.out.below ((Below.refl wn.heap.size wn).drew.trans hbm))
  go_simp
  (refine hK.out _ _ (hHeld.step hbm) (fun hHeld=>?_);clear hK K;(try simp only[apS,apN,siA,scZ,scS]))
  refine tkHx 10 37 ?_
  refine tkHx 11 26 ?_
  refine wpAnyH_done (by kernel_rfl) ?_ _
  clear hHeld
  generalize Cal.takesB y s l cont=tb at *
  cases tb
  ·rw[if_pos rfl] at hfE
   have hf:=hfE
   clear hfE
   go_wp2
   go_ret
   exact⟨ret_int hf.out.symm,hP.out.bel⟩
  rw[if_neg (by decide)] at hfE
  cases ho:Cal.occB bk.stays site l l
  ·rw[ho,if_neg (by decide)] at hfE
   have ho:=Lib.hid ho
   cases hc:Cal.covB bk.stays s l
   ·rw[hc,if_neg (by decide)] at hfE
    have hf:=hfE
    have hc:=Lib.hid hc
    clear hfE
    go_wp2_with (first
     |(go_at_call 57;refine (occupied_any B M S R c d y A cap bk site l l _ hP.out.bk).mono ?_;rintro e wn ⟨rfl,hbn⟩;rw[ho.out];replace hP:=Lib.hid (hP.out.below hbn);clear hbn;obtain⟨q0,q1,q2,q3,q4,q5⟩:=hP.out.st.c)
     |(go_at_call 60;clear q0 q1 q2 q3 q4 q5;refine (covered_any B M S R c d y A cap bk s l _ hP.out.bk (by omega) (by omega)).mono ?_;rintro e wn ⟨rfl,hbn⟩;rw[hc.out];replace hP:=Lib.hid (hP.out.below hbn);clear hbn))
    go_ret
    exact⟨ret_int hf.out.symm,hP.out.bel⟩
   rw[hc,if_pos rfl] at hfE
   have hf:=hfE
   have hc:=Lib.hid hc
   clear hfE
   go_wp2_with (first
    |(go_at_call 57;refine (occupied_any B M S R c d y A cap bk site l l _ hP.out.bk).mono ?_;rintro e wn ⟨rfl,hbn⟩;rw[ho.out];replace hP:=Lib.hid (hP.out.below hbn);clear hbn;obtain⟨q0,q1,q2,q3,q4,q5⟩:=hP.out.st.c)
    |(go_at_call 60;clear q0 q1 q2 q3 q4 q5;refine (covered_any B M S R c d y A cap bk s l _ hP.out.bk (by omega) (by omega)).mono ?_;rintro e wn ⟨rfl,hbn⟩;rw[hc.out];replace hP:=Lib.hid (hP.out.below hbn);clear hbn))
   go_ret
   exact⟨ret_int hf.out.symm,hP.out.bel⟩
  rw[ho,if_pos rfl] at hfE
  have hf:=hfE
  have ho:=Lib.hid ho
  clear hfE
  go_wp2_with (go_at_call 57;refine (occupied_any B M S R c d y A cap bk site l l _ hP.out.bk).mono ?_;rintro e wn ⟨rfl,hbn⟩;rw[ho.out];replace hP:=Lib.hid (hP.out.below hbn);clear hbn)
  go_ret
  exact⟨ret_int hf.out.symm,hP.out.bel⟩
end Go.Proofs.YtcnfhnndppollaaDoor
namespace Go.Proofs.YtcnfhnndppollaaDoor
open Go Go.RowKit Go.Maps
theorem restOver_any (B M:Nat) (S R:Option Addr) (c d:Nat) (y:Yd) (A:Option Addr) (cap:Nat) (bk:Bk) (t:Lot) (s:Site) (w:World) (hB:BkR w B M S R c d y A cap bk) (hs:Cal.siteOf y.sites t.site=some s) (h0:0≤t.since) (h1:t.since≤200000) :
  Calls Tryd.prog 78 #[.pointer (some ⟨B,0,none⟩),.agg #[.string t.remain,.int .i64 t.state,.string t.site,.int .i64 t.level,.int .i64 t.cont,.int .i64 t.since]] w fun e w'=>e=.returned (.int .i64 (Cal.overS y t))∧Below w.heap.size w w':=by
 have hf:Hid (Cal.overS y t=t.since+Cal.restOf y.rests s.soil t.cont):=by show _=_;unfold Cal.overS;rw[hs]
 have hbd:=restOf_bd hB.ok.yard s.soil t.cont
 have hs:=Lib.hid hs
 have hb0:=below_alloc w (.cells #[.string t.remain,.int .i64 t.state,.string t.site,.int .i64 t.level,.int .i64 t.cont,.int .i64 t.since] 38)
 have g0:=Lib.hid (BoxAt.new w #[.string t.remain,.int .i64 t.state,.string t.site,.int .i64 t.level,.int .i64 t.cont,.int .i64 t.since] 38)
 have hB1:=Lib.hid (hB.below hb0)
 have hb0:=Lib.hid hb0
 clear hB
 go_enter Tryd.func78,Tryd.ntmps78
 go_upto_region 1 with fail
 obtain⟨w1,hw1⟩:∃ w1,w.alloc (.cells #[.string t.remain,.int .i64 t.state,.string t.site,.int .i64 t.level,.int .i64 t.cont,.int .i64 t.since] 38)=w1:=⟨_,rfl⟩
 rw[hw1] at g0 hB1 hb0 ⊢
 clear hw1
 have hdr:Below w1.heap.size w1 w1.drew:=(Below.refl _ _).drew
 replace g0:=Lib.hid (g0.out.below hdr)
 replace hB1:=Lib.hid (hB1.out.below hdr)
 replace hb0:=Lib.hid (hb0.out.trans (Below.refl _ _).drew)
 clear hdr
 obtain⟨w2,hw2⟩:∃ w2,w1.drew=w2:=⟨_,rfl⟩
 rw[hw2] at g0 hB1 hb0
 have hso:=Lib.hid (siteOf_any S R c d y t.site _ hB1.out.yd.sites hB1.out.yd.slen)
 refine wp_region_held_drew (S:=Sx w2 [(w.heap.size,5,.int .i64 t.since),(w.heap.size,2,.string t.site),(w.heap.size,4,.int .i64 t.cont),(B,0,.slice S y.sites.length c),(B,1,.slice R y.rests.length d),(B,2,.int .i64 y.c0),(B,3,.int .i64 y.c1),(B,4,.int .i64 y.c2)]) (by kernel_rfl) (by rw[hw2];exact (Sx.mk (by simp only[cs_iff_cons];exact⟨g0.out.c 5 _ rfl,g0.out.c 2 _ rfl,g0.out.c 4 _ rfl,hB1.out.box.c 0 _ rfl,hB1.out.box.c 1 _ rfl,hB1.out.box.c 2 _ rfl,hB1.out.box.c 3 _ rfl,hB1.out.box.c 4 _ rfl,cs_nil _⟩) (Below.refl _ _))) (fun hHeld=>?_)
 rw[hw2] at hHeld ⊢
 clear hw2
 refine tkHx 0 5 ?_
 refine tkHx 1 6 ?_
 refine tkHx 2 7 ?_
 refine tkHx 3 8 ?_
 refine tkHx 4 9 ?_
 refine tkHx 5 10 ?_
 refine tkHx 6 11 ?_
 refine tkHx 7 12 ?_
 refine tkHx 8 13 ?_
 refine tkHx 9 14 ?_
 refine tkHx 10 15 ?_
 refine tkHx 11 16 ?_
 refine tkHx 15 20 ?_
 refine tkHx 16 21 ?_
 (refine ratHx 12 (fun K hK=>?_);go_simp)
 refine hso.out.mono ?_
 rintro e wm ⟨v,rfl,hv,hbm⟩
 rw[hs.out] at hv
 obtain⟨qb,qo,rfl,hql,hqr⟩:=hv
 have hst:SiteC w2 qb qo s:=⟨hql,hqr⟩
 clear hql hqr
 go_simp
 (refine hK.out _ _ (hHeld.step hbm) (fun hHeld=>?_);clear hK K;(try simp only[apS,apN,siA,scZ,scS]))
 refine tkHx 13 18 ?_
 refine tkHx 14 19 (hy:=by (intro w' hSw;obtain⟨q0,q1,q2,q3,q4,q5⟩:=(SiteC.below hst hSw.bel).c;go_simp;(try with_reducible rfl))) ?_
 (refine ratHx 17 (fun K hK=>?_);go_simp)
 refine (vrest_any S R c d y s t.cont _ (hB1.out.below hHeld.bel).yd.rests hB1.out.yd.rlen).mono ?_
 rintro e wn ⟨rfl,hbn⟩
 go_simp
 (refine hK.out _ _ (hHeld.step hbn) (fun hHeld=>?_);clear hK K;(try simp only[apS,apN,siA,scZ,scS]))
 refine tkHx 18 23 ?_
 refine tkHx 19 4 ?_
 refine wpAnyH_done (by kernel_rfl) ?_ _
 go_wp2
 go_ret
 have hwr:IntKind.i64.wrap (t.since+Cal.restOf y.rests s.soil t.cont)=t.since+Cal.restOf y.rests s.soil t.cont:=wrap_small _ (by omega) (by omega)
 exact⟨ret_int (hwr.trans hf.out.symm),hb0.out.trans (hHeld.bel.mono hb0.out.size)⟩
theorem open_any (B M:Nat) (S R:Option Addr) (c d:Nat) (y:Yd) (A:Option Addr) (cap:Nat) (bk:Bk) (t:Lot) (day:Int) (order:Bool) (s:Site) (w:World) (hB:BkR w B M S R c d y A cap bk) (hs:Cal.siteOf y.sites t.site=some s) (h0:0≤t.since) (h1:t.since≤200000) (l0:0≤t.level) (l1:t.level≤11) :
  Calls Tryd.prog 58 #[.pointer (some ⟨B,0,none⟩),.agg #[.string t.remain,.int .i64 t.state,.string t.site,.int .i64 t.level,.int .i64 t.cont,.int .i64 t.since],.int .i64 day,.bool order] w fun e w'=>e=.returned (.int .i64 (Cal.openE y bk.stays t day order))∧Below w.heap.size w w':=by
 obtain⟨E,hE⟩:∃ E,E=Cal.openE y bk.stays t day order:=⟨_,rfl⟩
 rw[←hE]
 have hfE:E=if Cal.covB bk.stays s t.level then 18 else if day<Cal.overS y t∧order=false then 17 else 0:=by rw[hE];unfold Cal.openE;rw[hs]
 have hover:=Lib.hid (fun w' h=>restOver_any B M S R c d y A cap bk t s w' h hs h0 h1)
 have hs:=Lib.hid hs
 have hb0:=below_alloc w (.cells #[.string t.remain,.int .i64 t.state,.string t.site,.int .i64 t.level,.int .i64 t.cont,.int .i64 t.since] 38)
 have g0:=Lib.hid (BoxAt.new w #[.string t.remain,.int .i64 t.state,.string t.site,.int .i64 t.level,.int .i64 t.cont,.int .i64 t.since] 38)
 have hB1:=Lib.hid (hB.below hb0)
 have hb0:=Lib.hid hb0
 clear hB hE
 go_enter Tryd.func58,Tryd.ntmps58
 go_upto_region 1 with fail
 obtain⟨w1,hw1⟩:∃ w1,w.alloc (.cells #[.string t.remain,.int .i64 t.state,.string t.site,.int .i64 t.level,.int .i64 t.cont,.int .i64 t.since] 38)=w1:=⟨_,rfl⟩
 rw[hw1] at g0 hB1 hb0 ⊢
 clear hw1
 have hdr:Below w1.heap.size w1 w1.drew:=(Below.refl _ _).drew
 replace g0:=Lib.hid (g0.out.below hdr)
 replace hB1:=Lib.hid (hB1.out.below hdr)
 replace hb0:=Lib.hid (hb0.out.trans (Below.refl _ _).drew)
 clear hdr
 obtain⟨w2,hw2⟩:∃ w2,w1.drew=w2:=⟨_,rfl⟩
 rw[hw2] at g0 hB1 hb0
 have hso:=Lib.hid (siteOf_any S R c d y t.site _ hB1.out.yd.sites hB1.out.yd.slen)
 refine wp_region_held_drew (S:=Sx w2 [(w.heap.size,3,.int .i64 t.level),(w.heap.size,2,.string t.site),(B,0,.slice S y.sites.length c),(B,1,.slice R y.rests.length d),(B,2,.int .i64 y.c0),(B,3,.int .i64 y.c1),(B,4,.int .i64 y.c2)]) (by kernel_rfl) (by rw[hw2];exact (Sx.mk (by simp only[cs_iff_cons];exact⟨g0.out.c 3 _ rfl,g0.out.c 2 _ rfl,hB1.out.box.c 0 _ rfl,hB1.out.box.c 1 _ rfl,hB1.out.box.c 2 _ rfl,hB1.out.box.c 3 _ rfl,hB1.out.box.c 4 _ rfl,cs_nil _⟩) (Below.refl _ _))) (fun hHeld=>?_)
 rw[hw2] at hHeld ⊢
 clear hw2
 refine tkHx 0 10 ?_
 refine tkHx 1 11 ?_
 refine tkHx 2 12 ?_
 refine tkHx 3 13 ?_
 refine tkHx 4 14 ?_
 refine tkHx 5 15 ?_
 refine tkHx 6 16 ?_
 refine tkHx 10 20 ?_
 refine tkHx 11 21 ?_
 (refine ratHx 7 (fun K hK=>?_);go_simp)
 refine hso.out.mono ?_
 rintro e wm ⟨v,rfl,hv,hbm⟩
 rw[hs.out] at hv
 obtain⟨qb,qo,rfl,hql,hqr⟩:=hv
 have hst:SiteC w2 qb qo s:=⟨hql,hqr⟩
 clear hql hqr
 go_simp
 (refine hK.out _ _ (hHeld.step hbm) (fun hHeld=>?_);clear hK K;(try simp only[apS,apN,siA,scZ,scS]))
 refine tkHx 8 18 ?_
 refine tkHx 9 19 (hy:=by (intro w' hSw;obtain⟨q0,q1,q2,q3,q4,q5⟩:=(SiteC.below hst hSw.bel).c;go_simp;(try with_reducible rfl))) ?_
 (refine ratHx 12 (fun K hK=>?_);go_simp)
 refine (covered_any B M S R c d y A cap bk s t.level _ (hB1.out.below hHeld.bel) (by omega) (by omega)).mono ?_
 rintro e wn ⟨rfl,hbn⟩
 go_simp
 (refine hK.out _ _ (hHeld.step hbn) (fun hHeld=>?_);clear hK K;(try simp only[apS,apN,siA,scZ,scS]))
 refine tkHx 13 9 ?_
 refine wpAnyH_done (by kernel_rfl) ?_ _
 have hbw:=Lib.hid (hb0.out.trans (hHeld.bel.mono hb0.out.size))
 have hB3:=Lib.hid (hB1.out.below hHeld.bel)
 have g3:=Lib.hid (g0.out.below hHeld.bel)
 clear hHeld hst g0 hB1 hb0
 cases hcv:Cal.covB bk.stays s t.level
 ·rw[hcv,if_neg (by decide)] at hfE
  obtain⟨x0,x1,x2,x3⟩:=g3.out.c4;have x4:=g3.out.c 4 _ rfl;have x5:=g3.out.c 5 _ rfl
  by_cases hd:day<Cal.overS y t
  ·have hdq:=decide_eq_true hd
   cases order
   ·rw[if_pos ⟨hd,rfl⟩] at hfE
    have hf:=Lib.hid hfE
    clear hfE hd hcv
    go_wp2_with (go_at_call 78;refine (hover.out _ hB3.out).mono ?_;rintro e wk ⟨rfl,hbk⟩;have hbz:=Lib.hid (hbw.out.trans (hbk.mono hbw.out.size));clear hbk)
    go_ret
    exact⟨ret_int hf.out.symm,hbz.out⟩
   rw[if_neg (by simp)] at hfE
   have hf:=Lib.hid hfE
   clear hfE hd hcv
   go_wp2_with (go_at_call 78;refine (hover.out _ hB3.out).mono ?_;rintro e wk ⟨rfl,hbk⟩;have hbz:=Lib.hid (hbw.out.trans (hbk.mono hbw.out.size));clear hbk)
   go_ret
   exact⟨ret_int hf.out.symm,hbz.out⟩
  have hdq:=decide_eq_false hd
  rw[if_neg (fun h=>hd h.1)] at hfE
  have hf:=Lib.hid hfE
  clear hfE hd hcv
  go_wp2_with (go_at_call 78;refine (hover.out _ hB3.out).mono ?_;rintro e wk ⟨rfl,hbk⟩;have hbz:=Lib.hid (hbw.out.trans (hbk.mono hbw.out.size));clear hbk)
  go_ret
  exact⟨ret_int hf.out.symm,hbz.out⟩
 rw[hcv,if_pos rfl] at hfE
 have hf:=Lib.hid hfE
 clear hfE hcv
 go_wp2
 go_ret
 exact⟨ret_int hf.out.symm,hbw.out⟩
end Go.Proofs.YtcnfhnndppollaaDoor
