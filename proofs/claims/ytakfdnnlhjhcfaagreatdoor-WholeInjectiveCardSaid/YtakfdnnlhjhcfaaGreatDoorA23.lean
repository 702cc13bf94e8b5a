/- Part of the proof. -/
import Derived.Defers
import Derived.Recover
import Derived.Test.YtakfdnnlhjhcfaaGreatDoorA22
set_option linter.unusedVariables false
set_option linter.unusedSimpArgs false
set_option maxRecDepth 100000
set_option maxHeartbeats 4000000
namespace Go.Proofs.YtakfdnnlhjhcfaaGreatDoor
open Go.RowKit Bk
section
variable{w0 w w':World}{B0 r fuel f m:Nat}{R:Rn}{S:Sv}{σ:PSt}{kd:Nat->Int}
theorem XG{q:Except Int (PSt×Nat)}(h:RAt w0 B0 w r R S σ fuel f kd m)(back:Bool){x:Nd}(Jo:x.k=50∨x.k=51)
  (hc:∀W,Below w.heap.size w W->Calls Tryz.prog 107 #[.pointer (some ⟨r,0,none⟩),.agg #[.int .u8 x.k,.int .i64 x.num,.string x.nm,.slice x.A x.n x.cap],.bool (back !=decide (x.k=51))] W fun en w'=>RunP w0 B0 W r R S fuel q en w'):
  Calls Tryz.prog 67 #[.pointer (some ⟨r,0,none⟩),.agg #[.int .u8 x.k,.int .i64 x.num,.string x.nm,.slice x.A x.n x.cap],.bool back] w fun en w'=>RunP w0 B0 w r R S fuel q en w':=by
 have H1:Hid (∀W,Below w.heap.size w W->RAt w0 B0 W r R S σ fuel f kd m):=aA fun W hW=>h.next hW h.B
 have oZ:Hid (∀b,w.heap.size<=b->¬RO S R r b):=aA fun b hb=>h.nro hb
 have HC:=aA hc;clear hc h;obtain⟨xk,num,nm,A,nn,cap⟩:=x;dsimp only at *;have Kl:Hid (∀W b,b=(back !=decide (xk=51))->Below w.heap.size w W->Calls Tryz.prog 107 #[.pointer (some ⟨r,0,none⟩),.agg #[.int .u8 xk,.int .i64 num,.string nm,.slice A nn cap],.bool b] W fun en w'=>RunP w0 B0 W r R S fuel q en w'):=aA fun W b hb hW=>by rw[hb];exact HC.out W hW
 clear HC;go_enter Tryz.func67,Tryz.ntmps67;go_upto_region 1 with fail;refine aB ?_;intro w1 aF;have aG:Below w.heap.size w w1:=(by rw[aF];go_grown);have K1:Blk w1 w.heap.size 26 #[.int .u8 xk,.int .i64 num,.string nm,.slice A nn cap]:=(by rw[aF];exact aQ);have aO:=aA aG;have a9:=aA K1;have hs1:=aG.size;have HQ:=aA (fun b hb=>Kl.out w1 b hb aG);have rC:=aA (H1.out w1 aG);have oM:=aA (oZ.out w.heap.size (aH _));have iL:=aA (Fr.of (O:=RO S R r) aG);have wZ:Hid (∀S5,S.Ext S5 w1->S.Ext S5 w):=aA fun S5 h=>⟨h.1,fun k hk=>h.2 k (dX hk aG.size)⟩
 obtain⟨aL,aJ,aK⟩:=K1.open_;clear aF aG K1 H1 oZ;generalize w.heap.size=bi at *;clear Kl;rcases Jo with rfl|rfl
 all_goals
  cases back
  all_goals
   go_wp2_with fail;refine(HQ.out _ (by decide)).mono ?_;intro en w6 h6;have H6:=aA h6;have pQ:=aA (RunP.pre (w':=w1) (S':=S) (Sv.Ext.refl _ _) iL.out h6);clear h6;cases q with
   |error e3=>
    obtain⟨rfl,_⟩:=H6.out;unfold bZ at *;go_wp2_with fail;exact⟨rfl,pQ.out⟩
   |ok p3=>
    obtain⟨rfl,_⟩:=H6.out;go_wp2_with fail;refine bodyPost_end (results_none rfl _ _ _) rfl ?_;exact pQ.out
theorem Ei{procs:List Pr}{pcs:List Pc}{n d0:Nat}(mQ:G4 w0 B0 r R fuel procs n)(mU:KD w0 B0 d0 R procs pcs):YQ w0 B0 r R fuel procs n:=by
 intro w S σ f kd m h hf back d s x hx hk pT;cases d with
 |zero=>exact hx.elim
 |succ d=>
  cases s with
  |nil=>exact hx.elim
  |upd op p e rest=>exact qU h hf back hx trivial hk
  |swp p q rest=>exact qU h hf back hx trivial hk
  |stk op s p rest=>exact qU h hf back hx trivial hk
  |tap op p rest=>exact qU h hf back hx trivial hk
  |cal op s args rest=>
   have fY:=hx.1;have Rg:=hx.2.1;refine XG h back (by omega) fun W hW=>?_
   have:=Eb mQ mU (h.next hW h.B) hf (back !=decide (x.k=51)) hx hk pT.1;show Calls _ _ _ _ fun en w'=>RunP w0 B0 W r R S fuel (p8 procs (execP procs n) (back !=decide (op=51)) s args σ f) en w'
   rw[<-fY];exact this
  |ifs e a b e' rest=>exact PN h back (.inl hx.1) fun W hW=>⟨fun _=>LM mQ (h.next hW h.B) hf back hx hk pT,fun h5=>by have:=hx.1;omega,fun h5=>by have:=hx.1;omega⟩
  |frm e a b e' rest=>exact PN h back (.inr (.inl hx.1)) fun W hW=>⟨fun h5=>by have:=hx.1;omega,fun _=>Ec mQ (h.next hW h.B) hf back hx hk pT,fun h5=>by have:=hx.1;omega⟩
  |loc v e b e' rest=>exact PN h back (.inr (.inr hx.1)) fun W hW=>⟨fun h5=>by have:=hx.1;omega,fun h5=>by have:=hx.1;omega,fun _=>TO mQ (h.next hW h.B) hf back hx hk pT⟩
  |lst v b rest=>exact Ht mQ h hf back hx hk pT
theorem J1{procs:List Pr}{pcs:List Pc}{d0:Nat}(mU:KD w0 B0 d0 R procs pcs):∀n,G4 w0 B0 r R fuel procs n
 |0=>fun _ _ _ _ _ _ _ hf=>absurd hf (Nat.not_lt_zero _)
 |n+1=>TM (Ei (J1 mU n) mU)
end
section
variable{w w':World}
theorem Y6{jb:Nat}{b:Bool}(h:Blk w jb 91 #[.slice none 0 0,.bool b]):Calls Tryz.prog 64 #[.pointer (some ⟨jb,0,none⟩)] w fun e w'=>e=.returned (.int .i64 0)∧w=w':=by
 obtain⟨aL,aJ,aK⟩:=h.open_;clear h;go_enter Tryz.func64,Tryz.ntmps64;go_wp2_with fail;go_ret;exact⟨rfl,rfl⟩
theorem Dq(a0 a1 a2:Value)(w:World):CallsD Tryz.prog 65 #[a0,a1,a2] .returning w fun e u' w'=>e=.returned (.tuple #[])∧u'=.returning∧w'=w:=by
 refine callsD_of_wpS Tryz.func65 rfl fun c₀ cs hu=>?_
 apply wpS_seq;apply wpS_region;simp[wpOpsS,go_sem,recoverD,hu,Tryz.ntmps65,Exit.thenS];apply wpS_seq;apply wpS_seq;apply wpS_region;simp[wpOpsS,go_sem,Exit.thenS];refine wpS_cond (t:=true) (by simp[Act.eval,Array.replicate]) ?_;simp only[if_true];refine wpS_of_wp (wp_ret ?_);cases c₀;simp_all[bodyPostS,results,Tryz.results65,Exit.thenS]
theorem TB{b0 b1 b2 jb:Nat}{t0 t1:TypeId}{bo:Bool}(x y:Int)(hj:Blk w jb 91 #[.slice none 0 0,.bool bo])(h0:Blk w b0 t0 #[.pointer (some ⟨jb,0,none⟩)])(h1:Blk w b1 t1 #[.int .i64 0])(h2:Blk w b2 39 #[.int .i64 y]):
  CallsD Tryz.prog 65 #[.pointer (some ⟨b0,0,none⟩),.pointer (some ⟨b1,0,none⟩),.pointer (some ⟨b2,0,none⟩)] (.panicking [{v:=.iface 131 (.agg #[.int .i64 x]),recovered:=false}]) w fun e u' w'=>e=.returned (.tuple #[])∧u'=.panicking [{v:=.iface 131 (.agg #[.int .i64 x]),recovered:=true}]∧(Blk w' b2 39 #[.int .i64 x]∧Fr (fun k=>k=b2) w w'):=by
 have HL:=aA (fun W hW=>Y6 (w:=W) (hj.next hW));have H0:=aA h0;have H1:=aA h1;have H2:=aA h2;obtain⟨Af,SY,RF⟩:=h0.open_;obtain⟨aL,aJ,aK⟩:=h1.open_;obtain⟨eL,eC,eF⟩:=h2.open_;clear h0 h1 h2 hj;have hta:∀W:World,(Instr.typeAssert (.iface 131 (.agg #[.int .i64 x])) 20 131 true).run Tryz.prog W=.ok (.tuple #[.agg #[.int .i64 x],.bool true]) W:=fun _=>by kernel_rfl
 refine callsD_of_wpS Tryz.func65 rfl fun c₀ cs hu=>?_
 apply wpS_seq;apply wpS_region;simp[wpOpsS,go_sem,recoverD,hu,Tryz.ntmps65,Exit.thenS];have HU:=aA hu;clear hu;refine wpS_of_wp ?_;simp only[Array.replicate_succ,Array.replicate_zero,List.push_toArray,List.append_toArray,List.nil_append,List.cons_append,List.setIfInBounds_toArray,List.set_cons_succ,List.set_cons_zero];go_wp2_with fail;refine wp_region_held_drew (S:=fun W=>Below w.heap.size w W) (by kernel_rfl) ((aM _ _).drew) (fun hH=>?_);refine aE ?_;intro wa bP;have hX:Below w.heap.size w wa:=by rw[bP];exact(aM _ _).drew
 replace hH:Below w.heap.size w wa:=hX;clear bP;refine cH 0 (v:=?_) rfl ?hy hH ?_
 case hy=>(intro bW aN;have t:=(H0.out.next aN).cell;clear aN;go_simp;try with_reducible rfl)
 (try simp only[PU,aD])
 refine cH 2 (v:=?_) rfl ?hy hH ?_
 case hy=>(intro bW aN;have t:=(H1.out.next aN).cell;clear aN;go_simp;try with_reducible rfl)
 (try simp only[PU,aD])
 refine cE 1 (by kernel_rfl) rfl (fun K hK=>?_);go_simp;refine(HL.out _ hX).mono ?_;rintro en wb ⟨rfl,rfl⟩;refine hK.out _ _ hH (fun hH=>?_);clear hK;(try simp only[PU,aD])
 refine aW 3 (v:=?_) rfl hH ?_;(try simp only[PU,aD])
 refine wpAnyH_done (by kernel_rfl) ?_ _;have HX:=aA hX;have bI:=aA (H2.out.next hX);clear Af SY RF aL aJ aK eL eC eF hH hX;obtain⟨eL,eC,eF⟩:=bI.out.open_;go_wp2_with fail;refine⟨rfl,_,rfl,_,results_none rfl _ _ _,rfl,rfl,?_,?_⟩
 ·simpa using(bI.out.set_ 0 (.int .i64 x)).alloc _
 ·repeat (first|exact Fr.of HX.out|apply Fr.alloc|(refine Fr.set ?_ ?_ _;rotate_left;exact rfl))
theorem oX(fn:Fn)(first cap:Array Value)(w:World):(binOp BinOp.eql 1 (.func fn first cap) .nilFunc).run Tryz.prog w=.ok (.bool false) w:=by
 have h:∀d,(Op.equalIn (d+1) 1 (.func fn first cap) .nilFunc).run Tryz.prog w=.ok false w:=by
  intro d;simp[Op.equalIn,run_underlying Tryz.underlying1]
 simp[binOp,Op.equal,show Op.maxDepth=9999+1 from rfl,h]
theorem P7{b:Nat}{tmps:Array Value}{x:Int}(hp:tmps.getD 4 undef=.pointer (some ⟨b,0,none⟩))(h:Blk w b 39 #[.int .i64 x]):(results Tryz.f42 tmps).run Tryz.prog w=.ok (.int .i64 x) w:=by
 obtain⟨aL,aJ,aK⟩:=h.open_;have h0:w.cell? ⟨b,0,none⟩=some (.int .i64 x):=by rw[aJ];rfl
 simp only[results,Tryz.results42];simp only[Array.getD_eq_getD_getElem?]at hp;simp[Sem.run_bind,Result.andThen,hp,asAddr,go_sem,h0]
theorem I6{jb:Nat}{gf:FuncId}{args:Array Value}{fv:Value}{Q:World->World->Prop}(hj:Blk w jb 91 #[.slice none 0 0,.bool false])(ZI:fv=.func (.func gf) #[] args)(eg:∀W:World,(callFunc gf args).run Tryz.prog W=.ok (.enter gf args) W)
  (GG:∀W,Below w.heap.size w W->Calls Tryz.prog gf args W fun e w'=>e=.returned (.tuple #[])∧Q W w') (O0:∀W W' b t cs,Below w.heap.size w W->Q W W'->(w.heap.size<=b∨b=jb)->Blk W b t cs->Blk W' b t cs):
  Calls Tryz.prog 42 #[.pointer (some ⟨jb,0,none⟩),fv] w fun e w'=>e=.returned (.int .i64 0)∧∃W W' b,Below w.heap.size w W∧Q W W'∧w.heap.size<=b∧b<W.heap.size∧Fr (fun k=>k=b) W' w':=by
 have hmf:∀(fn:Fn)(first cap:Array Value)(w:World),(Instr.makeFunc fn first cap).run Tryz.prog w=.ok (.func fn first cap) w:=fun _ _ _ _=>rfl
 have GL:∀w:World,(binOp BinOp.eql 1 fv .nilFunc).run Tryz.prog w=.ok (.bool false) w:=fun _=>by subst ZI;exact oX _ _ _ _
 have HL:=aA (fun W hW=>Y6 (w:=W) (hj.next hW));have An:=aA GG;have gK:=aA O0;have HJ:=aA hj;clear GG O0 hj;subst ZI
 go_enter_defers Tryz.func42,Tryz.ntmps42
 go_upto_region 1 with fail;refine aB ?_;intro w1 aF;have aG:Below w.heap.size w w1:=(by rw[aF];go_grown);have K0:Blk w1 w.heap.size 88 #[.pointer (some ⟨jb,0,none⟩)]:=(by rw[aF];exact aQ);have K2:Blk w1 (w.heap.size+1) 39 #[.int .i64 0]:=(by rw[aF];exact(Blk.new' (by simp) _ _));have aO:=aA aG;have Bu:=aA K0;have bI:=aA K2;obtain⟨Af,SY,RF⟩:=K0.open_;clear aF aG K0 K2;go_wp2_with fail;refine(HL.out w1 aO.out).mono ?_;rintro en w2 ⟨rfl,rfl⟩;go_upto_region 5 with fail;refine aB ?_;intro w3 dP;have aT:Below w1.heap.size w1 w3:=(by rw[dP];go_grown);have K1:Blk w3 w1.heap.size 3 #[.int .i64 0]:=(by rw[dP];exact Blk.new _ _ _);have bD:=aA (aO.out.next aT);have a9:=aA K1;have hs1:=aO.out.size;have Lo:=aA (Bu.out.next aT);have uA:=aA (bI.out.next aT);clear dP aT K1 Af SY RF Bu bI;generalize w1.heap.size=b1 at *;go_wp2_with fail;refine(An.out w3 bD.out).mono ?_;rintro en w4 ⟨rfl,hq⟩;have HQ:=aA hq;have Zt:=gK.out w3 w4 _ _ _ bD.out hq (.inl (by omega)) uA.out;have EQ:=aA Zt;obtain⟨eL,eC,eF⟩:=Zt.open_;clear hq Zt;go_wp2_with fail;refine leaves_cons (f:=65) (args:=#[.pointer (some ⟨w.heap.size,0,none⟩),.pointer (some ⟨b1,0,none⟩),.pointer (some ⟨w.heap.size+1,0,none⟩)]) (by simp) (by simp[go_sem]) ?_;refine(Dq _ _ _ _).mono ?_;rintro e u' w'' ⟨rfl,rfl,rfl⟩
 have KF:Blk (w4.setCell ⟨w.heap.size+1,0,none⟩ (.int .i64 0)) (w.heap.size+1) 39 #[.int .i64 0]:=by simpa using EQ.out.set_ 0 (.int .i64 0)
 have hf:Fr (fun k=>k=w.heap.size+1) w4 (w4.setCell ⟨w.heap.size+1,0,none⟩ (.int .i64 0)):=by refine Fr.set ?_ ?_ _;rotate_left;exact rfl;exact Fr.refl _ _
 clear eC eL eF;exact⟨.int .i64 0,P7 rfl KF,rfl,w3,w4,w.heap.size+1,bD.out,HQ.out,by omega,uA.out.lt,hf⟩
theorem zR{jb:Nat}{x:Int}{gf:FuncId}{args:Array Value}{fv:Value}{Q:World->World->Prop}(hj:Blk w jb 91 #[.slice none 0 0,.bool false])(ZI:fv=.func (.func gf) #[] args)(eg:∀W:World,(callFunc gf args).run Tryz.prog W=.ok (.enter gf args) W)
  (GG:∀W,Below w.heap.size w W->Calls Tryz.prog gf args W fun e w'=>e=bZ x∧Q W w') (O0:∀W W' b t cs,Below w.heap.size w W->Q W W'->(w.heap.size<=b∨b=jb)->Blk W b t cs->Blk W' b t cs):
  Calls Tryz.prog 42 #[.pointer (some ⟨jb,0,none⟩),fv] w fun e w'=>e=.returned (.int .i64 x)∧∃W W' b,Below w.heap.size w W∧Q W W'∧w.heap.size<=b∧b<W.heap.size∧Fr (fun k=>k=b) W' w':=by
 have hmf:∀(fn:Fn)(first cap:Array Value)(w:World),(Instr.makeFunc fn first cap).run Tryz.prog w=.ok (.func fn first cap) w:=fun _ _ _ _=>rfl
 have GL:∀w:World,(binOp BinOp.eql 1 fv .nilFunc).run Tryz.prog w=.ok (.bool false) w:=fun _=>by subst ZI;exact oX _ _ _ _
 unfold bZ at GG;have HL:=aA (fun W hW=>Y6 (w:=W) (hj.next hW));have An:=aA GG;have gK:=aA O0;have HJ:=aA hj;clear GG O0 hj;subst ZI
 go_enter_defers Tryz.func42,Tryz.ntmps42
 go_upto_region 1 with fail;refine aB ?_;intro w1 aF;have aG:Below w.heap.size w w1:=(by rw[aF];go_grown);have K0:Blk w1 w.heap.size 88 #[.pointer (some ⟨jb,0,none⟩)]:=(by rw[aF];exact aQ);have K2:Blk w1 (w.heap.size+1) 39 #[.int .i64 0]:=(by rw[aF];exact(Blk.new' (by simp) _ _));have aO:=aA aG;have Bu:=aA K0;have bI:=aA K2;obtain⟨Af,SY,RF⟩:=K0.open_;clear aF aG K0 K2;go_wp2_with fail;refine(HL.out w1 aO.out).mono ?_;rintro en w2 ⟨rfl,rfl⟩;go_upto_region 5 with fail;refine aB ?_;intro w3 dP;have aT:Below w1.heap.size w1 w3:=(by rw[dP];go_grown);have K1:Blk w3 w1.heap.size 3 #[.int .i64 0]:=(by rw[dP];exact Blk.new _ _ _);have bD:=aA (aO.out.next aT);have a9:=aA K1;have hs1:=aO.out.size;have Lo:=aA (Bu.out.next aT);have uA:=aA (bI.out.next aT);clear dP aT K1 Af SY RF Bu bI;generalize w1.heap.size=b1 at *;go_wp2_with fail;refine(An.out w3 bD.out).mono ?_;rintro en w4 ⟨rfl,hq⟩;have HQ:=aA hq;have HA:=aA (TB x 0 (gK.out w3 w4 _ _ _ bD.out hq (.inr rfl) (HJ.out.next bD.out)) (gK.out w3 w4 _ _ _ bD.out hq (.inl (by omega)) Lo.out) (gK.out w3 w4 _ _ _ bD.out hq (.inl (by omega)) a9.out) (gK.out w3 w4 _ _ _ bD.out hq (.inl (by omega)) uA.out));clear hq;go_wp2_with fail
 refine leaves_cons (f:=65) (args:=#[.pointer (some ⟨w.heap.size,0,none⟩),.pointer (some ⟨b1,0,none⟩),.pointer (some ⟨w.heap.size+1,0,none⟩)]) (by simp) (by simp[go_sem]) ?_;refine HA.out.mono ?_;rintro e u' w'' ⟨rfl,rfl,hb,hf⟩;exact⟨.int .i64 x,P7 rfl hb,rfl,w3,w4,w.heap.size+1,bD.out,HQ.out,by omega,uA.out.lt,hf⟩
end
section
variable{w0 w w':World}{B0 r fuel f m:Nat}{R:Rn}{S:Sv}{σ:PSt}{kd:Nat->Int}
theorem LN{procs:List Pr}{pcs:List Pc}{d0 d n:Nat}(mU:KD w0 B0 d0 R procs pcs)(h:RAt w0 B0 w r R S σ fuel f kd m)(hf:f<n)(back:Bool){s:Sq}{x:Nd}(hx:SqAt w0 B0 d s x)(hk:KV w0 B0 (d+1) x)(pT:s.cok procs){b12 b4 b7:Nat}{t12 t4 t7:TypeId}{V Q:Value}(h12:Blk w b12 t12 #[.pointer (some ⟨r,0,none⟩)])(h4:Blk w b4 t4 #[V,Q,.int .u8 x.k,.int .i64 x.num,.string x.nm,.slice x.A x.n x.cap])(h7:Blk w b7 t7 #[.bool back]):
  Calls Tryz.prog 43 #[.pointer (some ⟨b12,0,none⟩),.pointer (some ⟨b4,0,none⟩),.pointer (some ⟨b7,0,none⟩)] w fun en w'=>RunP w0 B0 w r R S fuel (execP procs n back s σ f) en w':=by
 have HC:=aA (J1 mU n w S σ f kd m h hf back d s x hx hk pT);obtain⟨Af,SY,RF⟩:=h12.open_;obtain⟨aL,aJ,aK⟩:=h4.open_;obtain⟨eL,eC,eF⟩:=h7.open_;obtain⟨q,hq⟩:∃q,execP procs n back s σ f=q:=⟨_,rfl⟩;rw[hq]at HC⊢;clear h12 h4 h7 h hx hk pT mU hf hq;obtain⟨xk,num,nm,A,nn,cap⟩:=x;dsimp only at *;go_enter Tryz.func43,Tryz.ntmps43;go_wp2_with fail;refine HC.out.mono ?_;intro en w6 h6;have H6:=aA h6;clear h6 HC Af SY RF aL aJ aK eL eC eF;cases q with
 |error e3=>
  have he:=H6.out.1;unfold bZ at he;subst he;go_wp2_with fail;exact⟨rfl,H6.out⟩
 |ok p3=>
  have he:=H6.out.1;subst he;go_wp2_with fail;refine bodyPost_end (results_none rfl _ _ _) rfl ?_;exact H6.out
end
structure SW(w:World)(D:Nat->Prop)(vC vI vO:Value)(cs:List (List Int))(inp out:List Int):Prop where
 row:∃sv:List Value,Sl w D 1 vC cs.length sv∧∀(i:Nat)(v:Value)(l:List Int),sv[i]?=some v->cs[i]?=some l->Sl w D 1 v l.length (aC l)
 inp:Sl w D 1 vI inp.length (aC inp)
 out:Sl w D 1 vO out.length (aC out)
theorem Sl.belowS{w w':World}{B:Nat}{size n:Nat}{v:Value}{xs:List Value}(h:Sl w (·<B) size v n xs)(hb:Below B w w'):Sl w' (·<B) size v n xs:=h.keep (fun b o gX=>hb.cell (p:=⟨b,o,none⟩) gX) fun _ h=>h
theorem SW.next{w w':World}{B:Nat}{vC vI vO:Value}{cs:List (List Int)}{inp out:List Int}(h:SW w (·<B) vC vI vO cs inp out)(hb:Below B w w'):SW w' (·<B) vC vI vO cs inp out:=by
 obtain⟨sv,h1,h2⟩:=h.row;exact⟨⟨sv,Sl.belowS h1 hb,fun i v l a b=>Sl.belowS (h2 i v l a b) hb⟩,Sl.belowS h.inp hb,Sl.belowS h.out hb⟩
theorem SW.map{w w':World}{D D':Nat->Prop}{vC vI vO:Value}{cs:List (List Int)}{inp out:List Int}(h:SW w D vC vI vO cs inp out)(hc:∀b o,D b->w'.cell? ⟨b,o,none⟩=w.cell? ⟨b,o,none⟩)(hD:∀k,D k->D' k):SW w' D' vC vI vO cs inp out:=by
 obtain⟨sv,h1,h2⟩:=h.row;exact⟨⟨sv,h1.keep hc hD,fun i v l a b=>(h2 i v l a b).keep hc hD⟩,h.inp.keep hc hD,h.out.keep hc hD⟩
theorem Sl.ownS{w:World}{base size n:Nat}{t:TypeId}{v:Value}{xs:List Value}(h:w.ownsRow base t size v n xs):Sl w (·<w.heap.size) size v n xs:=(Sl.of_own h).mono fun _ h=>h.2
section
variable{w w':World}{B:Nat}
theorem FH{v1 v2:Value}{a b:List Int}(h1:Sl w (·<w.heap.size) 1 v1 a.length (aC a))(h2:Sl w (·<w.heap.size) 1 v2 b.length (aC b))(ha:a.length<=4096)(hb:b.length<=4096):
  Calls Tryz.prog 62 #[v1,v2] w fun e w'=>∃tb u1 u2,e=.returned (.tuple #[.pointer (some ⟨tb,0,none⟩),.int .i64 0])∧Blk w' tb 156 #[u1,u2]∧w'.ownsRow w.heap.size 3 1 u1 a.length (aC a)∧w'.ownsRow w.heap.size 3 1 u2 b.length (aC b)∧(∀k,u1.ownBlock=some k->u2.ownBlock=some k->False)∧(∀k,(u1.ownBlock=some k∨u2.ownBlock=some k)->k<tb)∧w.heap.size<=tb∧Below w.heap.size w w':=by
 have H1:=aA (fun W hW=>eR (w:=W) (Sl.belowS h1 hW) (by omega));have H2:=aA (fun W hW=>eR (w:=W) (Sl.belowS h2 hW) (by omega));obtain⟨A1,c1,rfl,_⟩:=h1;obtain⟨A2,c2,rfl,_⟩:=h2;have q1:decide (4096<(a.length:Int))=false:=by simp;omega
 have q2:decide (4096<(b.length:Int))=false:=by simp;omega
 clear ha hb;go_enter Tryz.func62,Tryz.ntmps62;go_wp2_with fail;refine(H1.out _ (aM _ _)).mono ?_;rintro e w1 ⟨u1,rfl,o1,aG⟩;obtain⟨A1',c1',rfl⟩:=aI o1;have zJ:=aA o1;have aO:=aA aG;clear o1 aG;go_wp2_with fail;refine(H2.out w1 aO.out).mono ?_;rintro e w2 ⟨u2,rfl,o2,hb2⟩;obtain⟨A2',c2',rfl⟩:=aI o2;have E9:=aA o2;have aP:=aA (aO.out.next hb2);have Mf:=aA (aZ zJ.out hb2 (aH _));have hs1:=aO.out.size;have hs2:=hb2.size;clear o2 hb2;go_wp2_with fail;refine bodyPost_ret_by (results_tmp2 rfl _ _ _) rfl ?_;have hx:Below w2.heap.size w2 (w2.alloc (.cells #[.slice A1' a.length c1',.slice A2' b.length c2'] 156)):=(by go_grown);exact⟨_,_,_,rfl,Blk.new _ _ _,aZ Mf.out hx (aH _),aZ (dZ E9.out hs1) hx (aH _),fun k e1 e2=>by have:=bT zJ.out e1;have:=(bH E9.out e2).1;omega,fun k hk=>hk.elim (fun h=>bT Mf.out h) (fun h=>bT E9.out h),by omega,aP.out.next hx⟩
theorem LI{tb:Nat}{u1 u2:Value}{a:List Int}(hb:Blk w tb 156 #[u1,u2])(h1:Sl w (·<w.heap.size) 1 u1 a.length (aC a))(ha:a.length<=4096):
  Calls Tryz.prog 68 #[.pointer (some ⟨tb,0,none⟩)] w fun e w'=>∃v,e=.returned v∧w'.ownsRow w.heap.size 3 1 v a.length (aC a)∧Below w.heap.size w w':=by
 have H1:=aA (fun W hW=>eR (w:=W) (Sl.belowS h1 hW) (by omega));obtain⟨aL,aJ,aK⟩:=hb.open_;clear hb h1 ha;go_enter Tryz.func68,Tryz.ntmps68;go_wp2_with fail;refine(H1.out _ (by go_grown)).mono ?_;rintro e w1 ⟨v,rfl,o1,aG⟩;have zJ:=aA o1;have aO:=aA aG;clear o1 aG aL aJ aK;go_wp2_with fail;go_ret;exact⟨v,rfl,zJ.out,aO.out⟩
theorem FI{tb:Nat}{u1 u2:Value}{a:List Int}(hb:Blk w tb 156 #[u1,u2])(h1:Sl w (·<w.heap.size) 1 u2 a.length (aC a))(ha:a.length<=4096):
  Calls Tryz.prog 69 #[.pointer (some ⟨tb,0,none⟩)] w fun e w'=>∃v,e=.returned v∧w'.ownsRow w.heap.size 3 1 v a.length (aC a)∧Below w.heap.size w w':=by
 have H1:=aA (fun W hW=>eR (w:=W) (Sl.belowS h1 hW) (by omega));obtain⟨aL,aJ,aK⟩:=hb.open_;clear hb h1 ha;go_enter Tryz.func69,Tryz.ntmps69;go_wp2_with fail;refine(H1.out _ (by go_grown)).mono ?_;rintro e w1 ⟨v,rfl,o1,aG⟩;have zJ:=aA o1;have aO:=aA aG;clear o1 aG aL aJ aK;go_wp2_with fail;go_ret;exact⟨v,rfl,zJ.out,aO.out⟩
end
end Go.Proofs.YtakfdnnlhjhcfaaGreatDoor
