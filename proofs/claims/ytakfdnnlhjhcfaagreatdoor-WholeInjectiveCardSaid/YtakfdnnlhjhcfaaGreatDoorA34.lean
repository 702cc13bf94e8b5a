/- Part of the proof. -/
import Derived.RangeFuncMany
import Derived.RangeFuncLeaves
import Derived.RangeFuncCalls
import Derived.OwnWalkIn
import Derived.TacticsInMore
import Derived.Test.YtakfdnnlhjhcfaaGreatDoorA33
set_option linter.unusedVariables false
set_option linter.unusedSimpArgs false
set_option maxRecDepth 100000
set_option maxHeartbeats 4000000
namespace Go.Proofs.YtakfdnnlhjhcfaaGreatDoor
open Go.RowKit Bk
theorem LW{w:World}{B:Nat}(bG:B<=w.heap.size)(d:Nat)(x:Nd)(hx:KV w B d x)(hs:Sm w B d x)(w':World)(hb:Below B w w'):
  Calls Tryz.prog 110 #[.agg #[.int .u8 x.k,.int .i64 x.num,.string x.nm,.slice x.A x.n x.cap]] w' fun en w''=>(∃(y:Nd)(b:Nat),en=.returned (.func (.func 139) #[] #[.pointer (some ⟨b,0,none⟩)])∧Blk w'' b 26 #[.int .u8 y.k,.int .i64 y.num,.string y.nm,.slice y.A y.n y.cap]∧ClD w B w'' (fun k=>w'.heap.size<=k∧k<w''.heap.size) d x y)∧Below w'.heap.size w' w'':=by
 have HC:=aA (fun W hW=>zW bG d x hx hs W hW);have HB:=aA hb;obtain⟨k,num,nm,A,n,cap⟩:=x;clear hx hs hb;dsimp only at *;go_enter Tryz.func110,Tryz.ntmps110;go_upto_region 1 with fail;refine aB ?_;intro w1 aF;have aG:Below w'.heap.size w' w1:=by rw[aF];go_grown
 have K1:Blk w1 w'.heap.size 26 #[.int .u8 k,.int .i64 num,.string nm,.slice A n cap]:=by rw[aF];exact aQ
 have aO:=aA aG;clear aF aG;obtain⟨aL,aJ,aK⟩:=K1.open_;clear K1;go_wp2_with fail;refine(HC.out _ (HB.out.trans (aO.out.mono (by have:=HB.out.size;omega)))).mono ?_;rintro en w2 ⟨⟨y,rfl,hcl⟩,hb2⟩;have iK:=aA hcl;have aP:=aA (aO.out.next hb2);have hs1:=aO.out.size;clear hcl hb2 aL aJ aK;go_upto_region 2 with fail;refine aB ?_;intro w3 dP;have aT:Below w2.heap.size w2 w3:=by rw[dP];go_grown
 have K3:Blk w3 w2.heap.size 26 #[.int .u8 y.k,.int .i64 y.num,.string y.nm,.slice y.A y.n y.cap]:=by rw[dP];exact aQ
 clear dP;go_wp2_with fail;go_ret;have ZN:=aT.size;exact⟨⟨y,w2.heap.size,rfl,K3,iK.out.keep (fun b o hk=>aT.cell (p:=⟨b,o,none⟩) hk.2) fun q hq=>⟨by have:=hq.1;omega,by have:=hq.2;omega⟩⟩,aP.out.next aT⟩
theorem UE(w:World)(B:Nat)(D:Nat->Prop)(l b N:Nat)(J:List Nd->World->Prop)(Jx:World->Prop)(U:Nat->Nd->Prop)(hU:∀d x i y,U (d+1) x->i<x.n->Kid w B x i y->U d y)(W:World)(hD:∀k,D k->k<W.heap.size)
  (hJ:∀L A A',J L A->Kept (Hm W.heap.size) A A'->J L A')
  (hY:∀(L:List Nd)(A:World)(d:Nat)(x y:Nd)(pv:Value)(pl:List Int)(D2:Nat->Prop),L.length<N->J L A->U d x->KV w B d x->Sm w B d x->ClD w B A D2 d x y->(∀k,D2 k->W.heap.size<=k∧k<A.heap.size)->Sl A (fun k=>k<A.heap.size) 1 pv pl.length (aC pl)->YieldAt Fence.wide 0 Tryz.prog l #[pv,.agg #[.int .u8 y.k,.int .i64 y.num,.string y.nm,.slice y.A y.n y.cap]] A fun e W'=>(e=.returned (.bool true)∧J (x::L) W'∧Kept (Sw D) A W')∨(e=.returned (.bool false)∧Jx W'))
  (d:Nat) (x y:Nd) (VZ:U d x) (hx:KV w B d x) (hs:Sm w B d x) (hc:ClD w B W D d x y) (hb:Blk W b 26 #[.int .u8 y.k,.int .i64 y.num,.string y.nm,.slice y.A y.n y.cap]) (hj:J [] W) (hN:o8 w B d x<=N) (hd:d<=5000):
  Calls Tryz.prog 139 #[.func (.yield l) #[] #[],.pointer (some ⟨b,0,none⟩)] W fun e W'=>(∃v,e=.returned v)∧((∃L,J L W'∧AllD w B (fun _ u=>u∈L) d x)∨Jx W'):=by
 have HV:=aA (fun A hn hi hcl hjj=>M3 w B D W.heap.size W.heap.size (W.heap.size+1) (W.heap.size+2) l N ⟨by omega,by omega,by omega⟩ ⟨by omega,hD⟩ J Jx U hU hJ hY d x y [] A [] VZ hx hs hcl hn hjj (by simpa using hN) hi (by simpa using hd));have HC:=aA hc;have HJ:=aA hJ;have Wu:=aA hj;have HD:=aA hD;clear hc hJ hj hD hx hs hY;have qst:∀(w:World)(a:Addr)(g:Fn)(f lb:Array Value)(m:Mode),(store a (.func g f lb) m).run Tryz.prog w=stored Tryz.prog w a (.func g f lb) m:=fun w a g f lb m=>run_store _ w a _ m rfl
 go_enter Tryz.func139,Tryz.ntmps139;go_upto_region 4 with fail;refine aB ?_;intro w1 aF;have aG:Below W.heap.size W w1:=by rw[aF];go_grown
 have hy:Blk w1 W.heap.size 186 #[.func (.yield l) #[] #[]]:=by rw[aF];exact aQ
 have hp:Blk w1 (W.heap.size+1) 30 #[.slice none 0 0]:=by rw[aF];exact aQ
 have hv:Blk w1 (W.heap.size+2) 66 #[.func (.func 140) #[] #[.pointer (some ⟨W.heap.size,0,none⟩),.pointer (some ⟨W.heap.size+1,0,none⟩),.pointer (some ⟨W.heap.size+2,0,none⟩)]]:=by rw[aF];exact aQ
 have aO:=aA aG;have HI1:Hid (ItW w1 W.heap.size W.heap.size (W.heap.size+1) (W.heap.size+2) l []):=aA ⟨hy,hv,_,hp,⟨rfl,.inl ⟨rfl,rfl⟩⟩⟩;have KB:=hb.next aG;clear aF aG hy hp;obtain⟨T7,I0,G5⟩:=KB.open_;obtain⟨Ju,Iw,Ii⟩:=hv.open_;clear KB hv;go_wp2_with fail;refine(HV.out w1 aO.out.size HI1.out (HC.out.keep (fun b o hk=>aO.out.cell (p:=⟨b,o,none⟩) (HD.out b hk)) fun _ h=>h) (HJ.out [] _ _ Wu.out (Kept.of aO.out))).mono ?_;rintro e w2 (⟨rfl,⟨i2,_,ZJ,_,ha2⟩,_,_⟩|⟨rfl,Qp⟩)
 ·go_wp2_with fail
  refine bodyPost_end (results_none rfl _ _ _) rfl ?_;exact⟨⟨_,rfl⟩,.inl ⟨i2,ZJ,ha2⟩⟩
 ·go_wp2_with fail
  refine bodyPost_end (results_none rfl _ _ _) rfl ?_;exact⟨⟨_,rfl⟩,.inr Qp⟩
def pW(n0:Nat)(k:Nat)(o:Obj):Prop:=k<n0∨∃cs t z,o=.cells cs t z∧t≠3∧t≠30
def Nt(O:Nat->Prop)(n0:Nat)(TC:TypeId->Prop)(k:Nat)(o:Obj):Prop:=(k<n0∧¬O k)∨∀t,TC t->¬BH t o
def Te(I:World->Prop)(Ix:Code->World->Prop)(p:Nat->Obj->Prop)(W:World):Exit->Act->World->Prop
 |.normal,_,W'=>I W'∧Kept p W W'
 |.ret,_,W'=>Ix .ret W'∧Kept p W W'
 |_,_,_=>False
theorem Kept.put{p:Nat->Obj->Prop}{W:World}{l:Nat}{o o':Obj}(h:W.heap[l]?=some o)(hp:¬p l o):Kept p W (W.putObj l o'):=by
 have hb:=(aM 0 W).grown (grownBy_putObj' W l o') (fI _) (fun _ _=>fI _);refine⟨hb.os,hb.tape,hb.output,hb.size,fun k o'' hk Ri=>?_⟩;by_cases e:k=l
 ·subst e;rw[h]at hk;injection hk with hk;subst hk;exact absurd Ri hp
 ·exact(World.putObj_heap_other e).trans hk
theorem sR{f:FuncId}{fn:Func}{c:Code}{args:Array Value}{w:World}{R:Ending->World->Prop}(hf:Tryz.prog.funcs[f]?=some fn)(hb:fn.body=some c)
 (h:c.wp Tryz.prog (bodyPostM Fence.wide 0 Tryz.prog fn R) {tmps:=args++Array.replicate (fn.ntmps-args.size) undef,defers:= []} w):Calls Tryz.prog f args w R:=callsIn_wide.1 (callsIn_of_wp_marks hf hb trivial (wpIn_wide.2 h))
theorem pM{fn:Func}{tmps:Array Value}{Db:Nat}{w:World}{v:Value}{R:Ending->World->Prop}(hd:w.heap[Db]?=some (.deferred (some [])))(hr:(results fn tmps).run Tryz.prog (w.putObj Db (.deferred none))=.ok v (w.putObj Db (.deferred none)))(h:R (.returned v) (w.putObj Db (.deferred none))):
 bodyPostM Fence.wide 0 Tryz.prog fn R .ret {tmps:=tmps,defers:= [{target:=.collected Db,args:=#[]}]} w:=⟨by simp,.inl ⟨_,_,rfl,run_takeDeferred hd,v,hr,h⟩⟩
theorem qZ{w:World}{B b d:Nat}{D:Nat->Prop}{x y:Nd}{g:Operand}{p q:Tmp}{assign body:Code}{Q:Exit->Act->World->Prop}{a:Act}{W:World}
  (hg:a.eval g=.func (.func 139) #[] #[.pointer (some ⟨b,0,none⟩)]) (hx:KV w B d x) (hs:Sm w B d x) (hc:ClD w B W D d x y) (hb:Blk W b 26 #[.int .u8 y.k,.int .i64 y.num,.string y.nm,.slice y.A y.n y.cap]) (hD:∀k,D k->k<W.heap.size) (hd:d<=5000)
  (O:Nat->Prop) (hDO:∀k,D k->¬O k) (TC:TypeId->Prop) (hTC:¬TC 3∧¬TC 30∧¬TC 66∧¬TC 186∧¬TC 26)
  (N:Nat) (hN:o8 w B d x<=N) (I:List Nd->World->Prop) (Ix:Code->World->Prop) (U:Nat->Nd->Prop) (hU:∀d x i y,U (d+1) x->i<x.n->Kid w B x i y->U d y) (VZ:U d x)
  (hI:∀L A A',I L A->Kept (pW W.heap.size) A A'->I L A') (hIx:∀c A A',Ix c A->Kept (pW W.heap.size) A A'->Ix c A') (h0:I [] W)
  (Hb:∀(L:List Nd)(l:Nat)(W1:World)(e:Nat)(u z:Nd)(pv:Value)(pl:List Int)(D2:Nat->Prop),L.length<N->I L W1->W.heap.size<=l->l<W1.heap.size->U e u->KV w B e u->Sm w B e u->ClD w B W1 D2 e u z->(∀k,D2 k->l<k∧k<W1.heap.size)->Sl W1 (fun k=>k<W1.heap.size) 1 pv pl.length (aC pl)->
   assign.wpIn (Fence.wide.inRound l) 0 Tryz.prog (Exit.then (fun a₁ w₁=>Below W1.heap.size W1 w₁∧∀w2,Kept (fun k _=>k≠l) w₁ w2->I L w2->body.wpIn (Fence.wide.inRound l) 0 Tryz.prog (Te (I (u::L)) Ix (Nt O W.heap.size TC) w2) a₁ w2) (fun _ _ _=>False)) {tmps:=(a.tmps.setIfInBounds p pv).setIfInBounds q (.agg #[.int .u8 z.k,.int .i64 z.num,.string z.nm,.slice z.A z.n z.cap]),defers:= []} W1)
  (Pz:∀(Db:Nat)(L:List Nd)(W':World),I L W'->AllD w B (fun _ u=>u∈L) d x->W.heap.size<=Db->W'.heap[Db]?=some (.deferred (some []))->Q .normal {a with defers:={target:=.collected Db,args:=#[]}::a.defers} W')
  (Rw:∀(Db:Nat)(c:Code)(W':World),Ix c W'->W.heap.size<=Db->W'.heap[Db]?=some (.deferred (some []))->c.wp Tryz.prog Q {a with defers:={target:=.collected Db,args:=#[]}::a.defers} W'):
  (Code.rangeFunc g #[p,q] assign body).wp Tryz.prog Q a W:=by
 refine(wpIn_wide (n:=1)).1 (wpIn_rangeFunc ?_);intro fn yL;rw[Fence.wide_round];obtain⟨rec,hrec⟩:∃rec:LoopState->Option Code->Loop,rec=fun st pe=>{state:=st,pending:=pe,fn,tmps:=a.tmps,params:=#[p,q],assign,body,defers:=W.heap.size}:=⟨_,rfl⟩
 obtain⟨W1,hW1⟩:∃W1,(W.alloc (.deferred (some []))).alloc (.loop (rec .ready none))=W1:=⟨_,rfl⟩;have hL1:W1.heap[W.heap.size+1]?=some (.loop (rec .ready none)):=by
  rw[<-hW1];have:=World.alloc_heap_new (W.alloc (.deferred (some []))) (.loop (rec .ready none));rwa [World.size_alloc]at this
 have hK1:W1.heap[W.heap.size]?=some (.deferred (some [])):=by
  rw[<-hW1];exact(Below.heap_alloc _ _ _ (by simp)).trans (World.alloc_heap_new W _)
 have aG:Below W.heap.size W W1:=by rw[<-hW1];exact((aM _ W).alloc (aH _) _).alloc (by simp) _
 have hs1:W1.heap.size=W.heap.size+2:=by rw[<-hW1];simp
 have np:∀(k:Nat)(o:Obj),W.heap.size<=k->o.isCells=false->¬pW W.heap.size k o:=fun k o h1 h2 h3=>by
  rcases h3 with h3|⟨cs,t,z,rfl,_⟩
  ·omega
  ·cases h2
 have ip:∀{A A':World},Kept (Hm W1.heap.size) A A'->Kept (pW W.heap.size) A A':=fun h=>h.mono fun k o hk=>by
  rcases hk with hk|⟨cs,t,z,rfl,h1,h2⟩
  ·exact .inl (by omega)
  ·exact .inr fun h=>h.elim (wM h1) (wM h2)
 refine⟨W.heap.size+1,[{target:=.collected W.heap.size,args:=#[]}],W1,{target:=.fn (.func 139) #[.pointer (some ⟨b,0,none⟩)],args:=#[.func (.yield (W.heap.size+1)) #[] #[]]},W1,139,#[.func (.yield (W.heap.size+1)) #[] #[]]++ #[.pointer (some ⟨b,0,none⟩)],W1,?_,?_,fun _ _=>trivial,?_,fun _=>aH _,?_⟩
 ·rw[<-hW1,hrec];exact run_enterLoop_outer _ _ _ _ _
 ·simp only[resolve,hg]
  simp[go_sem]
 ·simp[invoke,go_sem,enters_of Tryz.func139 (by kernel_rfl) rfl]
 refine callsIn_wide.2 ((UE w B D (W.heap.size+1) b N
  (fun L A=>I L A∧A.heap[W.heap.size+1]?=some (.loop (rec .ready none))∧A.heap[W.heap.size]?=some (.deferred (some [])))
  (fun A=>∃c,Ix c A∧A.heap[W.heap.size+1]?=some (.loop (rec .done (some c)))∧A.heap[W.heap.size]?=some (.deferred (some []))) U hU W1
  (fun k hk=>by have:=hD k hk;omega) (fun L A A' hj hk=>⟨hI L A A' hj.1 (ip hk),hk.keep _ _ hj.2.1 (.inl (by omega)),hk.keep _ _ hj.2.2 (.inl (by omega))⟩) ?_ d x y VZ hx hs (hc.keep (fun b o hk=>aG.cell (p:=⟨b,o,none⟩) (hD b hk)) fun _ h=>h) (hb.next aG) ⟨hI [] W W1 h0 (Kept.of aG),hL1,hK1⟩ hN hd).mono ?_)
 ·rintro ii A e u z pv pl D2 hii ⟨hi,hl,hk⟩ Ve tP yR hcl Ph JB
  have eI:W.heap.size+1<A.heap.size:=(Array.getElem?_eq_some_iff.1 hl).1;have hy:=run_yield (P:=Tryz.prog) (args:=#[pv,.agg #[.int .u8 z.k,.int .i64 z.num,.string z.nm,.slice z.A z.n z.cap]]) hl (by rw[hrec];rfl);rw[hrec]at hy;have hz:∀t0:Array Value,((#[p,q]:Array Tmp).zip #[pv,.agg #[.int .u8 z.k,.int .i64 z.num,.string z.nm,.slice z.A z.n z.cap]]).foldl (fun tmps(t,a)=>tmps.setIfInBounds t a) t0=(t0.setIfInBounds p pv).setIfInBounds q (.agg #[.int .u8 z.k,.int .i64 z.num,.string z.nm,.slice z.A z.n z.cap]):=fun t0=>by simp
  dsimp only at hy;rw[hz]at hy;refine⟨fn,_,assign,body,hy,roundIn_of_wpIn trivial (wpIn_mono (Hb ii (W.heap.size+1) A e u z pv pl D2 hii hi (by omega) eI Ve tP yR hcl (fun k hk=>⟨by have:=(Ph k hk).1;omega,(Ph k hk).2⟩) JB) ?_)⟩;intro ex a₁ w₁ WB;cases ex with
  |normal=>
   obtain⟨lP,hbo⟩:=WB;have hl1:w₁.heap[W.heap.size+1]?=some (.loop (rec .ready none)):=(lP.block _ eI).trans hl;have rH:w₁.heap[W.heap.size]?=some (.deferred (some [])):=(lP.block _ (by omega)).trans hk;refine⟨_,run_beginRound hl1 (by rw[hrec]),?_⟩;have NX:¬pW W.heap.size (W.heap.size+1) (.loop (rec .ready none)):=np _ _ (by omega) rfl;have hl2:(w₁.putObj (W.heap.size+1) (.loop {rec .ready none with state:=.busy})).heap[W.heap.size+1]?=some (.loop {rec .ready none with state:=.busy}):=World.putObj_heap_same (by have:=lP.size;omega);have yN:(w₁.putObj (W.heap.size+1) (.loop {rec .ready none with state:=.busy})).heap[W.heap.size]?=some (.deferred (some [])):=(World.putObj_heap_other (by omega)).trans rH;refine wpIn_mono (hbo _ (Kept.put hl1 (fun h=>h rfl)) (hI _ _ _ (hI _ _ _ hi (Kept.of lP)) (Kept.put hl1 NX))) ?_;have rd1:Kept (Sw D) A (w₁.putObj (W.heap.size+1) (.loop {rec .ready none with state:=.busy})):=(Kept.of lP).trans (Kept.put hl1 fun h=>by
    rcases h with h|⟨_,_,h⟩|⟨_,_,h⟩|⟨_,_,h⟩|⟨_,_,h⟩|⟨_,_,h⟩
    ·have:=hD _ h;omega
    all_goals cases h)
   have bd:∀{X Y:World},Kept (Nt O W.heap.size TC) X Y->Kept (Sw D) X Y:=fun h=>h.mono fun k o hp=>by
    obtain⟨c1,c2,c3,c4,c5⟩:=hTC;rcases hp with hp|⟨cs,z,rfl⟩|⟨cs,z,rfl⟩|⟨cs,z,rfl⟩|⟨cs,z,rfl⟩|⟨cs,z,rfl⟩
    ·exact .inl ⟨hD k hp,hDO k hp⟩
    all_goals exact .inr fun t ht=>wM fun e=>by subst e;contradiction
   have fin:∀(C8:Option Code)(W3:World),Kept (Nt O W.heap.size TC) (w₁.putObj (W.heap.size+1) (.loop {rec .ready none with state:=.busy})) W3->
     (Instr.endRound (W.heap.size+1) C8).run Tryz.prog W3=.ok (.bool C8.isNone) (W3.putObj (W.heap.size+1) (.loop (rec (if C8.isNone then .ready else .done) C8)))∧
     W3.heap[W.heap.size+1]?=some (.loop {rec .ready none with state:=.busy})∧
     (W3.putObj (W.heap.size+1) (.loop (rec (if C8.isNone then .ready else .done) C8))).heap[W.heap.size+1]?=some (.loop (rec (if C8.isNone then .ready else .done) C8))∧
     (W3.putObj (W.heap.size+1) (.loop (rec (if C8.isNone then .ready else .done) C8))).heap[W.heap.size]?=some (.deferred (some [])):=fun C8 W3 Gp=>by
    have IZ:=Gp.keep _ _ hl2 (.inr fun t _ h=>by obtain⟨_,_,h⟩:=h;cases h);have xC:=Gp.keep _ _ yN (.inr fun t _ h=>by obtain⟨_,_,h⟩:=h;cases h);have:=run_endRound (P:=Tryz.prog) C8 IZ;rw[hrec]at this⊢;exact⟨this,by rw[hrec]at IZ;exact IZ,World.putObj_heap_same (Array.getElem?_eq_some_iff.1 IZ).1,(World.putObj_heap_other (by omega)).trans xC⟩
   rintro e3 a3 W3 hp;cases e3 with
   |normal=>
    obtain⟨Gn,Gp⟩:=hp;obtain⟨hr,IZ,Qs,N9⟩:=fin none W3 Gp;exact⟨_,_,hr,.inl ⟨rfl,⟨hI _ _ _ Gn (Kept.put IZ (np _ _ (by omega) rfl)),Qs,N9⟩,rd1.trans ((bd Gp).trans (Kept.put IZ fun h=>by
     rcases h with h|⟨_,_,h⟩|⟨_,_,h⟩|⟨_,_,h⟩|⟨_,_,h⟩|⟨_,_,h⟩
     ·have:=hD _ h;omega
     all_goals cases h))⟩⟩
   |ret=>
    obtain⟨Gn,Gp⟩:=hp;obtain⟨hr,IZ,Qs,N9⟩:=fin (some .ret) W3 Gp;exact⟨_,_,hr,.inr ⟨rfl,.ret,hIx _ _ _ Gn (Kept.put IZ (np _ _ (by omega) rfl)),Qs,N9⟩⟩
   |exit id=>exact hp.elim
   |goto t=>exact hp.elim
   |panic c=>exact hp.elim
   |outgrown=>exact hp.elim
  |exit id=>exact WB.elim
  |goto t=>exact WB.elim
  |ret=>exact WB.elim
  |panic c=>exact WB.elim
  |outgrown=>exact WB.elim
 ·rintro e W2 ⟨⟨v,rfl⟩,(⟨i2,⟨hi,hl,hk⟩,ha⟩|⟨c,hi,hl,hk⟩)⟩
  ·exact⟨none,_,by have:=run_endLoop (P:=Tryz.prog) hl (by rw[hrec];simp);rw[hrec]at this;exact this,Pz _ i2 _ (hI _ _ _ hi (Kept.put hl (np _ _ (by omega) rfl))) ha (aH _) ((World.putObj_heap_other (by omega)).trans hk)⟩
  ·exact⟨some c,_,by have:=run_endLoop (P:=Tryz.prog) hl (by rw[hrec];simp);rw[hrec]at this;exact this,wpIn_wide.2 (Rw _ c _ (hIx _ _ _ hi (Kept.put hl (np _ _ (by omega) rfl))) (aH _) ((World.putObj_heap_other (by omega)).trans hk))⟩
attribute [local go_sem] Oper.semAt_some
def xL(nm:ByteArray)(_:Nat)(u:Nd):Prop:=(u.k=2∨u.k=3∨u.k=4∨u.k=5)->(u.nm.toList==nm.toList)=false
theorem rW{w:World}{B:Nat}{nm:ByteArray}:∀(e:Ex)(d:Nat)(x:Nd),KV w B d x->EV w B aS e x->AllD w B (xL nm) d x->e.has nm=false
 |_,0,_,h,_,_=>h.elim
 |.num v,d+1,x,_,_,_=>rfl
 |.var s,d+1,x,_,⟨h1,_,h2,_⟩,h=>by subst h2;exact h.1 (.inl h1)
 |.top s,d+1,x,_,⟨h1,_,h2,_⟩,h=>by subst h2;exact h.1 (.inr (.inr (.inl h1)))
 |.size s,d+1,x,_,⟨h1,_,h2,_⟩,h=>by subst h2;exact h.1 (.inr (.inr (.inr h1)))
 |.item s a,d+1,x,⟨_,_,_,_,_,hk⟩,⟨h1,_,h2,_,h3,y,h4,h5⟩,h=>by
  subst h2;obtain⟨y',k1,k2⟩:=hk 0 (by omega);obtain rfl:=Kid.one h4 k1;show(x.nm.toList==nm.toList||a.has nm)=false;rw[h.1 (.inr (.inl h1)),rW a d y k2 h5 (h.2 0 y (by omega) h4)];rfl
 |.un op a,d+1,x,⟨_,_,_,_,_,hk⟩,⟨h1,_,_,_,h3,y,h4,h5⟩,h=>by
  obtain⟨y',k1,k2⟩:=hk 0 (by omega);obtain rfl:=Kid.one h4 k1;exact rW a d y k2 h5 (h.2 0 y (by omega) h4)
 |.bin op a b,d+1,x,⟨_,_,_,_,_,hk⟩,⟨h1,_,_,_,h3,y,z,h4,Ja,h5,h6⟩,h=>by
  obtain⟨y',k1,k2⟩:=hk 0 (by omega);obtain rfl:=Kid.one h4 k1;obtain⟨z',q1,q2⟩:=hk 1 (by omega);obtain rfl:=Kid.one Ja q1;show(a.has nm||b.has nm)=false;rw[rW a d y k2 h5 (h.2 0 y (by omega) h4),rW b d z q2 h6 (h.2 1 z (by omega) Ja)];rfl
theorem oW{fn:Func}{p:Tmp}(h:fn.results=#[.cell p 4])(tmps:Array Value)(w:World)(g:Nat)(t:TypeId)(r:Bool)(hp:tmps.getD p undef=.pointer (some ⟨g,0,none⟩))(hg:Blk w g t #[.bool r]):(results fn tmps).run Tryz.prog w=.ok (.bool r) w:=by
 have hu:=Tryz.underlying4;have hc:w.cell? ⟨g,0,none⟩=some (.bool r):=hg.cell 0;simp only[results,h];simp only[Array.getD_eq_getD_getElem?]at hp;simp[Sem.run_bind,Result.andThen,hp,asAddr,loadVar];go_simp
theorem Kept.below{p:Nat->Obj->Prop}{n:Nat}{W W1 W2:World}(h:Below n W W1)(hk:Kept p W1 W2)(hp:∀q o,q<n->p q o)(hn:n<=W.heap.size:=by omega):Below n W W2:=
 ⟨hk.os.trans h.os,hk.tape.trans h.tape,hk.output.trans h.output,fC h.size hk.size,fun q hq=>by
  have h1:=h.block q hq;have eI:q<W1.heap.size:=by have:=h.size;omega
  rw[hk.heap eI (fun o=>hp q o hq)];exact h1⟩
theorem u9{w:World}{B:Nat}(bG:B<=w.heap.size)(d:Nat)(hd:d<=5000)(x:Nd)(hx:KV w B d x)(hs:Sm w B d x)(nm:ByteArray)(w':World)(hb:Below B w w'):
  Calls Tryz.prog 142 #[.agg #[.int .u8 x.k,.int .i64 x.num,.string x.nm,.slice x.A x.n x.cap],.string nm] w' fun en w''=>(∃r,en=.returned (.bool r)∧(r=false->AllD w B (xL nm) d x))∧Below w'.heap.size w' w'':=by
 have HW:=aA (fun W hW=>LW bG d x hx hs W hW);have HB:=aA hb;have HX:=aA hx;have HS:=aA hs;obtain⟨k,num,nmx,A,n,cap⟩:=x;clear hx hs hb;dsimp only at *;refine sR Tryz.func142 rfl ?_;simp only[Tryz.ntmps142,List.size_toArray,List.length_cons,List.length_nil,Nat.reduceAdd,Nat.reduceSub,Array.replicate_succ,Array.replicate_zero,List.push_toArray,List.append_toArray,List.nil_append,List.cons_append];go_upto_region 1 with fail;refine aB ?_;intro w1 aF;have aG:Below w'.heap.size w' w1:=by rw[aF];go_grown
 have K1:Blk w1 w'.heap.size 26 #[.int .u8 k,.int .i64 num,.string nmx,.slice A n cap]:=by rw[aF];exact aQ
 have K3:Blk w1 (w'.heap.size+1) 9 #[.string nm]:=by rw[aF];exact aQ
 have K4:Blk w1 (w'.heap.size+2) 4 #[.bool false]:=by rw[aF];exact aQ
 have aO:=aA aG;have dD:=aA K3;have eG:=aA K4;clear aF aG K3;obtain⟨aL,aJ,aK⟩:=K1.open_;have ZO:=K4.lt;clear K1 K4;go_wp2_with fail;refine(HW.out _ (HB.out.trans (aO.out.mono (by have:=HB.out.size;omega)))).mono ?_;rintro en w2 ⟨⟨y,b,rfl,mQ,hcl⟩,hb2⟩;have aP:=aA (aO.out.next hb2);have Wy:=aA (dD.out.next hb2);have Wz:=aA (eG.out.next hb2);have hs2:=hb2.size;clear aL aJ aK hb2;go_wp2_with fail;refine qZ (w:=w) (B:=B) (D:=fun q=>w1.heap.size<=q∧q<w2.heap.size) (x:=⟨k,num,nmx,A,n,cap⟩) (y:=y) (b:=b) rfl HX.out HS.out hcl mQ (fun q hq=>hq.2) hd (fun q=>q=w'.heap.size+2) (fun q hq e=>by have:=hq.1;omega) (fun t=>t=4) ⟨by decide,by decide,by decide,by decide,by decide⟩ _ (aH _)
  (fun L W=>(∀u,u∈L->xL nm 0 u)∧Below w'.heap.size w' W∧Blk W (w'.heap.size+1) 9 #[.string nm]∧Blk W (w'.heap.size+2) 4 #[.bool false])
  (fun c W=>c=.ret∧Below w'.heap.size w' W∧Blk W (w'.heap.size+2) 4 #[.bool true]) (fun _ _=>True) (fun _ _ _ _ _ _ _=>trivial) trivial ?_ ?_ ⟨fun u h=>(by cases h),aP.out,Wy.out,Wz.out⟩ ?_ ?_ ?_
 ·rintro _ E E' ⟨h0,h1,h2,h3⟩ hk
  exact⟨h0,Kept.below h1 hk fun q o hq=>.inl (by omega),hk.blk h2 (.inl (by omega)),hk.blk h3 (.inl (by omega))⟩
 ·rintro c E E' ⟨h1,h2,h3⟩ hk
  exact⟨h1,Kept.below h2 hk fun q o hq=>.inl (by omega),hk.blk h3 (.inl (by omega))⟩
 ·rintro L l E e u z pv pl D2 _ ⟨h0,h1,h2,h3⟩ hl1 hl2 _ _ _ mR _ _
  have hu:z.k=u.k∧z.nm=u.nm:=by
   cases e with
   |zero=>exact mR.elim
   |succ e=>exact⟨mR.1.1,mR.1.2.2.1⟩
  simp only[List.setIfInBounds_toArray,List.set_cons_zero,List.set_cons_succ]
  gi_wp2
  refine⟨(aM _ _).alloc (aH _) _,fun w4 N9⟨g0,g1,g2,g3⟩=>?_⟩;have KX:Blk w4 E.heap.size 26 #[.int .u8 u.k,.int .i64 z.num,.string u.nm,.slice z.A z.n z.cap]:=N9.blk (Blk.new _ _ _) (by omega);have HG0:=aA g0;have Wo:=aA g1;have EL:=aA g3;have HG2:=aA g2;have HHK:=aA N9;obtain⟨z_x,T_x,F_x⟩:=KX.open_;obtain⟨rJ,mK,mJ⟩:=g2.open_;obtain⟨tE,s9,s6⟩:=g3.open_;clear g0 g1 g2 g3 N9 KX h0 h1 h2 h3 hu mR;have fin:((u.k=2∨u.k=3∨u.k=4∨u.k=5)->(u.nm.toList==nm.toList)=false)->((∀u',u'∈u::L->xL nm 0 u')∧Below w'.heap.size w' w4∧Blk w4 (w'.heap.size+1) 9 #[.string nm]∧Blk w4 (w'.heap.size+2) 4 #[.bool false])∧Kept (Nt (fun q=>q=w'.heap.size+2) w2.heap.size fun t=>t=4) w4 w4:=fun h=>⟨⟨fun u' RB=>(by rcases List.mem_cons.1 RB with rfl|h2;exact h;exact HG0.out u' h2),Wo.out,HG2.out,EL.out⟩,Kept.refl _⟩
  have ff:Fr (fun q=>q=w'.heap.size+2) w4 (w4.setCell ⟨w'.heap.size+2,0,none⟩ (.bool true)):=Fr.set (Fr.refl (fun q=>q=w'.heap.size+2) _) rfl _;have retf:(Below w'.heap.size w' (w4.setCell ⟨w'.heap.size+2,0,none⟩ (.bool true))∧Blk (w4.setCell ⟨w'.heap.size+2,0,none⟩ (.bool true)) (w'.heap.size+2) 4 #[.bool true])∧Kept (Nt (fun q=>q=w'.heap.size+2) w2.heap.size fun t=>t=4) w4 (w4.setCell ⟨w'.heap.size+2,0,none⟩ (.bool true)):=
   ⟨⟨Wo.out.trans (ff.below Wo.out.size fun q hq=>by omega),by simpa using EL.out.set_ 0 (.bool true)⟩,Kept.fr ff fun q o hq e hp=>by
    subst e;rcases hp with hp|hp
    ·exact hp.2 rfl
    ·have:=hq.symm.trans EL.out;injection this with this;subst this
     exact hp _ rfl ⟨_,_,rfl⟩⟩
  have tF:=aA fin;have HRE:=aA retf;clear fin retf ff
  gi_wp2
  all_goals first|exact⟨⟨rfl,HRE.out.1⟩,HRE.out.2⟩|exact tF.out fun _=>by assumption|exact tF.out fun h=>by simp_all
 ·intro Db _ E hI ha hdb hE
  have HE:=aA hI.2.1;have K4:=hI.2.2.2;have ha:=AllD.mono (V':=xL nm) (fun _ u hu=>hI.1 u hu) ha;obtain⟨tE,s9,s6⟩:=K4.open_;dsimp only;go_wp2_with fail;have ZF:Fr (fun q=>q=w'.heap.size+2) E (E.setCell ⟨w'.heap.size+2,0,none⟩ (.bool false)):=Fr.set (Fr.refl (fun q=>q=w'.heap.size+2) _) rfl _;have Pj:=HE.out.size;have aAo:=(ZF.block Db (Array.getElem?_eq_some_iff.1 hE).1 (by omega)).trans hE;refine pM aAo (oW rfl _ _ (w'.heap.size+2) 4 false rfl ?_) ?_
  ·exact(World.putObj_heap_other (by omega)).trans (K4.set_ 0 (.bool false))
  ·exact⟨⟨_,rfl,fun _=>ha⟩,(HE.out.trans (ZF.below Pj fun q hq=>by omega)).trans ((aM _ _).grown (grownBy_putObj' _ Db _) (by have:=ZF.size;omega) (fun k e=>by cases e;omega))⟩
 ·rintro Db c E ⟨rfl,h2,h3⟩ hdb hE
  dsimp only;go_wp2_with fail;have Pj:=h2.size;refine pM hE (oW rfl _ _ (w'.heap.size+2) 4 true rfl ?_) ?_
  ·exact(World.putObj_heap_other (by omega)).trans h3
  ·exact⟨⟨_,rfl,fun h=>by cases h⟩,h2.trans ((aM _ _).grown (grownBy_putObj' _ Db _) Pj (fun k e=>by cases e;omega))⟩
def lT(w:World)(B:Nat)(nm:ByteArray)(x:Nd):Prop:=x.k=3->∀z,Kid w B x 0 z->∃d,KV w B d z∧AllD w B (xL nm) d z
theorem x9{w:World}{B:Nat}(bG:B<=w.heap.size)(d:Nat)(hd:d<=5000)(x:Nd)(hx:KV w B d x)(hs:Sm w B d x)(h1:x.k=3->1<=x.n)(nm:ByteArray)(w':World)(hb:Below B w w'):
  Calls Tryz.prog 141 #[.agg #[.int .u8 x.k,.int .i64 x.num,.string x.nm,.slice x.A x.n x.cap],.string nm] w' fun en w''=>(∃r,en=.returned (.bool r)∧(r=false->lT w B nm x))∧Below w'.heap.size w' w'':=by
 cases d with
 |zero=>exact hx.elim
 |succ d=>
 obtain⟨_,_,_,_,_,dE⟩:=hx;obtain⟨_,yR⟩:=hs;obtain⟨k,num,nmx,A,n,cap⟩:=x;dsimp only at *;by_cases hk:k=3
 ·subst hk
  have h1:=h1 rfl;obtain⟨y,cS,iW⟩:=dE 0 (by omega);have HM:=aA (fun W hW=>u9 bG d (by omega) y iW (yR 0 y (by omega) cS) nm W hW);have gE:=aA cS;have HB:=aA hb;have IT:=aA iW;obtain⟨g,o,hA,cR,c0,c1,c2,c3⟩:=cS.cells hb;simp only at hA;subst hA;have j1:(0:Int)<(n:Int):=by omega
  clear dE yR cS iW hb;simp only[Nat.zero_mul,Nat.add_zero]at c0 c1 c2 c3;go_enter Tryz.func141,Tryz.ntmps141;go_upto_region 1 with fail;refine aB ?_;intro w1 aF;have aG:Below w'.heap.size w' w1:=by rw[aF];go_grown
  have K1:Blk w1 w'.heap.size 26 #[.int .u8 3,.int .i64 num,.string nmx,.slice (some ⟨g,o,none⟩) n cap]:=by rw[aF];exact aQ
  have aO:=aA aG;have oR:g<w'.heap.size:=by have:=HB.out.size;omega
  replace c0:=(aG.cell (p:=⟨g,o,none⟩) oR).trans c0;replace c1:=(aG.cell (p:=⟨g,o+1,none⟩) oR).trans c1;replace c2:=(aG.cell (p:=⟨g,o+2,none⟩) oR).trans c2;replace c3:=(aG.cell (p:=⟨g,o+3,none⟩) oR).trans c3;clear aF aG;obtain⟨aL,aJ,aK⟩:=K1.open_;clear K1;go_wp2_with fail;refine(HM.out w1 (HB.out.trans (aO.out.mono (by have:=HB.out.size;omega)))).mono ?_;rintro en w2 ⟨⟨r,rfl,hr⟩,hb2⟩;have HR:=aA hr;have aP:=aA hb2;clear hr hb2 aL aJ aK c0 c1 c2 c3;go_wp2_with fail;go_ret;exact⟨⟨r,rfl,fun h _ z hz=>by obtain rfl:=Kid.one gE.out hz;exact⟨d,IT.out,HR.out h⟩⟩,aO.out.next aP.out⟩
 ·have tB:(k==3)=false:=by simpa using hk
  clear dE yR;go_enter Tryz.func141,Tryz.ntmps141;go_wp2_with fail;go_ret;exact⟨⟨false,rfl,fun _ h=>absurd h hk⟩,by go_grown⟩
theorem z5{w:World}{B:Nat}(bG:B<=w.heap.size)(d:Nat)(hd:d<=5000)(x:Nd)(hx:KV w B (d+1) x)(hs:Sm w B (d+1) x)(h1:∀i y,i<x.n->Kid w B x i y->y.k=3->1<=y.n)(ss:List ByteArray)(hm:ss.length<=2)(g0 c0:Nat)(w':World)(hb:Below B w w')(hN:∀j s,ss[j]?=some s->w'.cell? ⟨g0,j,none⟩=some (.string s))(hg0:g0<w'.heap.size):
  Calls Tryz.prog 143 #[.slice x.A x.n x.cap,.slice (some ⟨g0,0,none⟩) ss.length c0] w' fun en w''=>(∃nm r,en=.returned (.tuple #[.string nm,.int .i64 r])∧(r=0->∀i y s,i<x.n->Kid w B x i y->s∈ss->lT w B s y))∧Below w'.heap.size w' w'':=by
 obtain⟨_,_,f9,mD,_,dE⟩:=hx;obtain⟨_,yR⟩:=hs;obtain⟨k,num,nmx,A,n,cap⟩:=x;obtain⟨m,hm2⟩:∃m,ss.length=m:=⟨_,rfl⟩;have HK:=aA dE;have HS:=aA yR;have H1:=aA h1;have HB:=aA hb;have HN:=aA hN;have HM:=aA hm2;rw[hm2]at hm⊢;have hn2:n<=9223372036854775807:=by unfold maxLen at mD;dsimp only at f9 mD;omega
 clear dE yR h1 hb hN hm2 f9 mD;dsimp only at *;go_enter Tryz.func143,Tryz.ntmps143;go_wp2_with fail
 go_loopw [12] (fun v12 wr=>∃j:Nat,j<=n∧v12=.int .i64 j∧(∀i y s,i<j->Kid w B ⟨k,num,nmx,A,n,cap⟩ i y->s∈ss->lT w B s y)∧Below w'.heap.size w' wr) (fun v _=>n-(intOf v).toNat)
 case atStart=>exact⟨0,fI _,rfl,fun i y s hi=>absurd hi (Nat.not_lt_zero _),aM _ _⟩
 case round=>
  obtain⟨j,hj,rfl,fQ,cF⟩:=hrel
  rename World=>wa
  have gO:=aA fQ;have cG:=aA cF;clear fQ cF;by_cases e9:j<n
  ·obtain⟨y,cS,iW⟩:=HK.out j e9
   have gE:=aA cS;have IT:=aA iW;obtain⟨g,o,eY,cR,c0,c1,c2,c3⟩:=cS.cells (HB.out.trans (cG.out.mono (by have:=HB.out.size;omega)));simp only at eY;subst eY;have j0:(0:Int)<=(j:Int):=by omega
   have j1:(j:Int)<(n:Int):=by omega
   have nG:=aA (fun s W hW=>x9 bG d hd y iW (HS.out j y e9 cS) (H1.out j y e9 cS) s W hW);clear cS iW;go_upto_region 4 with fail;refine aB ?_;intro w2 eD;have hb2:Below wa.heap.size wa w2:=by rw[eD];go_grown
   have K2:Blk w2 wa.heap.size 26 #[.int .u8 y.k,.int .i64 y.num,.string y.nm,.slice y.A y.n y.cap]:=by rw[eD];exact aQ
   have aP:=aA (cG.out.next hb2);have bI:=aA K2;clear eD hb2 K2 c0 c1 c2 c3;go_wp2_with fail
   go_loopw [18] (fun v18 wi=>∃i:Nat,i<=m∧v18=.int .i64 i∧(∀q s,q<i->ss[q]?=some s->lT w B s y)∧Below w2.heap.size w2 wi) (fun v _=>m-(intOf v).toNat)
   case atStart=>exact⟨0,fI _,rfl,fun q s hi=>absurd hi (Nat.not_lt_zero _),aM _ _⟩
   case round=>
    obtain⟨i,hi,rfl,xG,Jc⟩:=hrel;have G7:=aA xG;have Ke:=aA Jc;have hs2:=aP.out.size;clear xG Jc;by_cases him:i<m
    ·have AQ:ss[i]?=some (ss[i]'(by rw[HM.out];exact him)):=dR _
     obtain⟨s,hs⟩:∃s,ss[i]'(by rw[HM.out];exact him)=s:=⟨_,rfl⟩;rw[hs]at AQ;have cN:wr.cell? ⟨g0,i,none⟩=some (.string s):=((aP.out.next Ke.out).cell (p:=⟨g0,i,none⟩) hg0).trans (HN.out i s AQ);have Dd:=aA AQ;have i0:(0:Int)<=(i:Int):=by omega
     have i1:(i:Int)<(m:Int):=by omega
     obtain⟨eL,eC,eF⟩:=(bI.out.next Ke.out).open_;clear AQ hs;go_wp2_with fail;refine(nG.out s wr (HB.out.trans ((aP.out.next Ke.out).mono (by have:=HB.out.size;omega)))).mono ?_;rintro en w5 ⟨⟨r,rfl,hr⟩,cW⟩;have HR:=aA hr;have gL:=aA (Ke.out.next cW);clear hr cW eL eC eF cN;cases r with
     |true=>
      go_wp2_with fail;refine bodyPost_ret_by (results_tmp2 rfl _ _ _) rfl ?_;exact⟨⟨s,8,rfl,fun h=>by simp at h⟩,aP.out.next gL.out⟩
     |false=>
      go_wp2_with fail;refine⟨⟨i+1,by omega,by go_num,fun q t hq ht=>?_,gL.out⟩,by simp[intOf];omega⟩;rcases Nat.lt_or_ge q i with h|h
      ·exact G7.out q t h ht
      ·obtain rfl:q=i:=by omega
       rw[Dd.out]at ht;injection ht with ht;subst ht;exact HR.out (by trivial)
    ·obtain rfl:i=m:=by omega
     go_wp2_with fail;refine⟨⟨j+1,by omega,by go_num,fun q y' t hq hy ht=>?_,aP.out.next Ke.out⟩,by simp[intOf];omega⟩;rcases Nat.lt_or_ge q j with h|h
     ·exact gO.out q y' t h hy ht
     ·obtain rfl:q=j:=by omega
      obtain rfl:=Kid.one gE.out hy;obtain⟨p,hp,Rh⟩:=List.mem_iff_getElem.1 ht;exact G7.out p t (by rw[<-HM.out];exact hp) (by rw[dR hp,Rh])
  ·obtain rfl:j=n:=by omega
   go_wp2_with fail;refine bodyPost_ret_by (results_tmp2 rfl _ _ _) rfl ?_;exact⟨⟨_,0,rfl,fun _ i y s hi hk hs=>gO.out i y s hi hk hs⟩,cG.out⟩
end Go.Proofs.YtakfdnnlhjhcfaaGreatDoor
