/- Part of the proof. -/
import Derived.Test.YtakfdnnlhjhcfaaGreatDoorA15
set_option linter.unusedVariables false
set_option linter.unusedSimpArgs false
set_option maxRecDepth 100000
set_option maxHeartbeats 4000000
namespace Bk
open Go Go.RowKit
theorem dF{P:Program}{w:World}{ops:Array Oper}{rest:List Oper}{o:Oper}{a:Act}{Q:Exit->Act->World->Prop}(Je:o.guard=none)(s x:Operand)(t:TypeId)(ho:o.op=.call {callee:=.builtin .append,args:=#[s,x],argTypes:=#[t,t]})
  (base:Nat) (e:TypeId) (i:TypeInfo) (z:Value) (size bytes:Nat) (ht:P.underlying t=some (.slice e)) (hi:P.info? e=some i) (hz:i.zero=some z) (qG:i.size=size) (NH:i.bytes=bytes) (RD:z.cells.size=size) (l6:0<size)
  (v:Value) (n:Nat) (xs:List Value) (hs:a.eval s=v) (bB:w.ownsRow base e size v n xs) {D:Nat->Prop} {u:Value} {m:Nat} {ys:List Value} (hx:a.eval x=u) (hu:Sl w D size u m ys) (h1:∀u∈ys,u.oneCell'=true) (IX:n+m<=maxLen) (iI:(n+m)*bytes<=140737488355328) (hbase:base<=w.heap.size)
  (h:∀v' w',w'.ownsRow base e size v' (n+m) (xs++ys)->w.grownBy w' v.ownBlock->(v'.ownBlock=v.ownBlock∨v'.ownBlock=some w.heap.size)->wpList P ops Q rest (a.put o.dst v') w'):wpList P ops Q (o::rest) a w:=by
 refine wpList_plain Je fun K hK=>?_
 exact oE s x t ho base e i z size bytes ht hi hz qG NH RD l6 v n xs hs bB hx hu h1 IX iI hbase fun v' w' a1 a2 a3=>hK _ _ (h v' w' a1 a2 a3)
theorem tS{w:World}{g:Nat}{t:TypeId}{u0 u1 u2:Value}(h:Blk w g t #[u0,u1,u2]):Sl w (fun _=>True) 3 (.slice (some ⟨g,0,none⟩) 1 1) 1 [u0,u1,u2]:=
 ⟨_,1,rfl,aH _,(fun e=>by cases e),rfl,fun _=>⟨g,0,rfl,trivial,fun j v hv=>by rw[Nat.zero_add];exact(h.cell j).trans (by rw[List.getElem?_toArray];exact hv)⟩⟩
end Bk
namespace Go.Proofs.YtakfdnnlhjhcfaaGreatDoor
open Go.RowKit Bk
theorem nU:(Tryz.prog.info? 72).map (fun i=>(i.zero,i.size,i.bytes))=some (some (.agg #[.string ⟨#[]⟩,.int .u8 0,.int .i64 0]),3,32):=by kernel_rfl
theorem AU:(Tryz.prog.info? 125).map (fun i=>(i.zero,i.size,i.bytes))=some (some (.pointer none),1,8):=by kernel_rfl
structure Jw(w:World)(B b o:Nat)(v c:Value)(vs:List Vr)(ps:List Value)(u:Vr)(pt:Value)(w':World)(v' c':Value):Prop where
 blk:∀t cs,Blk w b t cs->Blk w' b t ((cs.setIfInBounds o v').setIfInBounds (o+1) c')
 vars:w'.ownsRow B 72 3 v' (vs.length+1) (aU (vs++ [u]))
 refs:w'.ownsRow B 125 1 c' (ps.length+1) (ps++ [pt])
 fr:Fr (fun k=>k=b∨v.ownBlock=some k∨c.ownBlock=some k) w w'
 hv:∀k,v'.ownBlock=some k->v.ownBlock=some k∨w.heap.size<=k
 hc:∀k,c'.ownBlock=some k->c.ownBlock=some k∨w.heap.size<=k
 ne:∀k,v'.ownBlock=some k->c'.ownBlock=some k->False
theorem ZV{w:World}{B b o:Nat}{t:TypeId}{cs:Array Value}{v c:Value}{vs:List Vr}{ps:List Value}(hB:B<=w.heap.size)(hb:Blk w b t cs)(h0:cs[o]?=some v)(h1:cs[o+1]?=some c)(hv:w.ownsRow B 72 3 v vs.length (aU vs))(hc:w.ownsRow B 125 1 c ps.length ps)(nb:v.ownBlock≠some b)(nb2:c.ownBlock≠some b)(ne:∀k,v.ownBlock=some k->c.ownBlock=some k->False)(hn:vs.length<=100000)(hn2:ps.length<=100000)(u:Vr)(p:Nat):
  Calls Tryz.prog 63 #[.pointer (some ⟨b,o,none⟩),.agg #[.string u.nm,.int .u8 u.k,.int .i64 u.len],.pointer (some ⟨p,0,none⟩)] w fun e w'=>e=.returned (.tuple #[])∧∃v' c',Jw w B b o v c vs ps u (.pointer (some ⟨p,0,none⟩)) w' v' c':=by
 have f8:=hb.lt;have QJ:=aA hb;obtain⟨A,c0,rfl⟩:=aI hv;obtain⟨A1,c1,rfl⟩:=aI hc;obtain⟨i3,li,lz,ls,lb⟩:=info_parts nU;have HI:=aA li;have HZ:=aA lz;have lI:=aA ls;have jY:=aA lb;obtain⟨i4,li,lz,ls,lb⟩:=info_parts AU;have RU:=aA li;have HZ4:=aA lz;have Zg:=aA ls;have Vw:=aA lb;clear li lz ls lb;have HV:=aA hv;have Wa:=aA hc;have YD:=aA ne;have Yq:=aA h0;have F1:=aA h1;obtain⟨n,hnn⟩:∃n,vs.length=n:=⟨_,rfl⟩;obtain⟨n2,hnn2⟩:∃n2,ps.length=n2:=⟨_,rfl⟩;have HN:=aA hnn;have SD:=aA hnn2;rw[hnn]at HV Yq nb YD hn⊢;rw[hnn2]at Wa F1 nb2 YD hn2⊢;have Xv:=aA nb;have Cj:=aA nb2;have HCW:Hid (w.cell? ⟨b,o,none⟩=some (.slice A n c0)):=aA ((QJ.out.cell o).trans Yq.out);have aAT:Hid (w.cell? ⟨b,o+1,none⟩=some (.slice A1 n2 c1)):=aA ((QJ.out.cell (o+1)).trans F1.out);have HVR:Hid (∀k,Value.ownBlock (.slice A n c0)=some k->k<w.heap.size):=aA fun k hk=>bT HV.out hk
 have HCR:Hid (∀k,Value.ownBlock (.slice A1 n2 c1)=some k->k<w.heap.size):=aA fun k hk=>bT Wa.out hk
 obtain⟨nm,k,len⟩:=u;dsimp only;clear hb h0 h1 hv hc nb nb2 ne hnn hnn2;go_enter Tryz.func63,Tryz.ntmps63;go_upto_region 1 with fail;refine aB ?_;intro w1 aF;have aG:Below w.heap.size w w1:=(by rw[aF];go_grown);have K1:Blk w1 w.heap.size 72 #[.string nm,.int .u8 k,.int .i64 len]:=(by rw[aF];exact aQ);have a9:=aA K1;have aO:=aA aG;have hs1:=aG.size;clear aF aG K1;have HO:Hid (w1.ownsRow B 72 3 (.slice A n c0) n (aU vs)):=aA (aZ HV.out aO.out (aH _));have Z6:b<w1.heap.size:=by omega
 have sA:¬Value.ownBlock (.slice A n c0)=some b:=Xv.out;have Qz:¬Value.ownBlock (.slice A n c0)=some w.heap.size:=fun e=>by have:=HVR.out _ e;omega
 have HC:Hid (w1.cell? ⟨b,o,none⟩=some (.slice A n c0)):=aA ((aO.out.cell (p:=⟨b,o,none⟩) f8).trans HCW.out);have t8:Hid (w1.frozen? ⟨b,o,none⟩=false):=aA ((QJ.out.next aO.out).frozen o);refine dN (S:=fun W=>Fr (fun k=>Value.ownBlock (.slice A n c0)=some k) w1 W) 10 (by kernel_rfl) ((Fr.refl _ _).drew) (fun hH=>?_);refine dK ?_;intro wa bP;have hX:Fr (fun k=>Value.ownBlock (.slice A n c0)=some k) w1 wa:=by rw[bP];exact(Fr.refl _ _).drew
 have rA:=HO.out;replace rA:wa.ownsRow B 72 3 (.slice A n c0) n (aU vs):=by rw[bP];exact mY rA
 replace hH:=hX;clear bP;refine aV (i:=0) (v:=?_) rfl (by kernel_rfl) (by kernel_rfl) (by kernel_rfl) (by kernel_rfl) (fun _ _ _ h=>h) (Or.inl ⟨by rfl,?hy⟩) hH ?_
 case hy=>(intro bW aN;clear aN;go_simp;try with_reducible rfl)
 (try simp only[PU,aD])
 refine aV (i:=1) (v:=?_) rfl (by kernel_rfl) (by kernel_rfl) (by kernel_rfl) (by kernel_rfl) (fun _ _ _ h=>h) (Or.inl ⟨by rfl,?hy⟩) hH ?_
 case hy=>(intro bW aN;clear aN;go_simp;try with_reducible rfl)
 (try simp only[PU,aD])
 refine aV (i:=2) (v:=?_) rfl (by kernel_rfl) (by kernel_rfl) (by kernel_rfl) (by kernel_rfl) (fun _ _ _ h=>h) (Or.inl ⟨by rfl,?hy⟩) hH ?_
 case hy=>(intro bW aN;clear aN;go_simp;try with_reducible rfl)
 (try simp only[PU,aD])
 refine aV (i:=3) (v:=?_) rfl (by kernel_rfl) (by kernel_rfl) (by kernel_rfl) (by kernel_rfl) (fun _ _ _ h=>h) (Or.inl ⟨by rfl,?hy⟩) hH ?_
 case hy=>(intro bW aN;clear aN;go_simp;try with_reducible rfl)
 (try simp only[PU,aD])
 refine aV (i:=4) (v:=?_) rfl (by kernel_rfl) (by kernel_rfl) (by kernel_rfl) (by kernel_rfl) (fun _ _ _ h=>h) (Or.inl ⟨by rfl,?hy⟩) hH ?_
 case hy=>(intro bW aN;have t:=(aN.cell Z6 sA o).trans HC.out;clear aN;go_simp;try with_reducible rfl)
 (try simp only[PU,aD])
 refine aV (i:=5) (v:=?_) rfl (by kernel_rfl) (by kernel_rfl) (by kernel_rfl) (by kernel_rfl) (fun _ _ _ h=>h) (Or.inl ⟨by rfl,?hy⟩) hH ?_
 case hy=>(intro bW aN;have t:=(aN.blk a9.out Qz).cell;clear aN;go_simp;try with_reducible rfl)
 (try simp only[PU,aD])
 refine bQ (i:=6) rfl (by kernel_rfl) (fun K hK=>?_);go_simp;replace hH:=hX.alloc (.cells #[.string nm,.int .u8 k,.int .i64 len] 72);refine hK.out _ _ hH (fun _=>?_);clear hK;(try simp only[PU,aD])
 refine dK ?_;intro wb bS;have aR:Below wa.heap.size wa wb:=by rw[bS];exact(aM _ _).alloc (aH _) _
 have pX:Blk wb wa.heap.size 72 #[.string nm,.int .u8 k,.int .i64 len]:=by rw[bS];exact Blk.new _ _ _
 replace rA:=aZ rA aR (aH _);replace hX:=hX.next aR;replace hH:=hX;clear bS aR;refine bQ (i:=7) rfl (by kernel_rfl) (fun K hK=>?_);rw[if_pos (by rfl)];refine oE (.tmp 10) (.tmp 12) 22 rfl B 72 i3 _ 3 32 Tryz.underlying22 HI.out HZ.out lI.out jY.out rfl (by decide) (.slice A n c0) n (aU vs) (by simp[Act.eval]) rA (by simp[Act.eval]) (tS pX) (by intro u hu;simp at hu;rcases hu with rfl|rfl|rfl<;>rfl) (by unfold maxLen;omega) (by omega) (by have:=hX.size;omega) ?_;intro v_2 wc bB eH nS;have VP:=hX.size;replace hX:Fr (fun k=>Value.ownBlock (.slice A n c0)=some k) w1 wc:=hX.trans (Fr.ofGrownN eH);replace hH:=hX;obtain⟨iS,iT,rfl⟩:=aI bB;have tY:Hid (∀k,Value.ownBlock (.slice iS (n+1) iT)=some k->Value.ownBlock (.slice A n c0)=some k∨w1.heap.size<=k):=aA (fun k hk=>nS.imp (fun e=>by rw[<-e];exact hk) (fun e=>by rw[hk]at e;have e:=Option.some.inj e;omega));clear eH nS VP;refine hK.out _ _ hH (fun _=>?_);clear hK;(try simp only[PU,aD])
 refine bQ (i:=8) rfl (by kernel_rfl) (fun K hK=>?_);go_simp;refine hK.out _ _ hH (fun _=>?_);clear hK;(try simp only[PU,aD])
 refine aV (i:=9) (v:=?_) rfl (by kernel_rfl) (by kernel_rfl) (by kernel_rfl) (by kernel_rfl) (fun _ _ _ h=>h) (Or.inl ⟨by rfl,?hy⟩) hH ?_
 case hy=>(intro bW aN;clear aN;go_simp;try with_reducible rfl)
 (try simp only[PU,aD])
 refine fK (l:=10) rfl (by kernel_rfl) (by kernel_rfl) (fun K hK=>?_);have IG:=(World.frozen?_of_block (a:=⟨b,o,none⟩) (hX.block _ Z6 sA)).trans t8.out;have C_f:=(hX.cell Z6 sA _).trans HC.out;go_simp;refine hK.out _ _ ?_;clear hK;(try simp only[PU,aD])
 have Cm:=aA bB;have F7:=aA hX;clear bB hX hH rA;have aP:Hid (Blk wc b t (cs.setIfInBounds o (.slice A n c0))):=aA (by
  have e:cs.setIfInBounds o (.slice A n c0)=cs:=by
   have ho:=(Array.getElem?_eq_some_iff.1 Yq.out);obtain⟨eI,he⟩:=ho;rw[<-he];simp[Array.setIfInBounds,eI]
  rw[e];exact F7.out.blk (QJ.out.next aO.out) sA)
 generalize Jm:wc.setCell ⟨b,o,none⟩ (.slice iS (n+1) iT)=we at *;have X2:=aA Jm;have RK:Hid (Blk we b t (cs.setIfInBounds o (.slice iS (n+1) iT))):=aA (by rw[<-X2.out];exact(F7.out.blk (QJ.out.next aO.out) sA).set_ o _);have IP:Hid (Fr (fun k=>k=b∨Value.ownBlock (.slice A n c0)=some k) w1 we):=aA (by rw[<-X2.out];exact(F7.out.mono fun k hk=>.inr hk).set (p:=⟨b,o,none⟩) (.inl rfl) _);have HOE:Hid (we.ownsRow B 72 3 (.slice iS (n+1) iT) (n+1) (aU vs++ [.string nm,.int .u8 k,.int .i64 len])):=aA (by
  rw[<-X2.out];exact bL (O:=fun k=>k=b) Cm.out ((Fr.refl (fun k=>k=b) wc).set (p:=⟨b,o,none⟩) rfl _) fun k hk e=>by subst e;rcases tY.out _ hk with h1|h1;exact sA h1;omega)
 have IK:Hid (we.ownsRow B 125 1 (.slice A1 n2 c1) n2 ps):=aA (bL (aZ Wa.out aO.out (aH _)) IP.out fun k hk e=>by rcases e with e|e;(subst e;exact Cj.out hk);exact YD.out k e hk);have d1:we.cell? ⟨b,o+1,none⟩=some (.slice A1 n2 c1):=by rw[RK.out.cell,Array.getElem?_setIfInBounds,if_neg (by omega)];exact F1.out
 have f1:=RK.out.frozen (o+1);have hse:=IP.out.size;clear Jm;go_wp2_with (at_builtin;refine dF rfl (.tmp 20) (.tmp 22) 118 rfl B 125 i4 _ 1 8 Tryz.underlying118 RU.out HZ4.out Zg.out Vw.out rfl (by decide) (.slice A1 n2 c1) n2 ps rfl (aZ IK.out ((aM _ _).alloc (aH _) _) (aH _)) rfl (oB (Blk.new _ _ _)) (by intro u hu;simp at hu;rcases hu with rfl;rfl) (by unfold maxLen;omega) (by omega) (by simp;omega) ?_);intro v_3 wf vT NQ NE;obtain⟨Ih,Iy,rfl⟩:=aI vT;have JR:=aA vT;have jK:Hid (Fr (fun k=>Value.ownBlock (.slice A1 n2 c1)=some k) we wf):=aA ((Fr.of ((aM _ _).alloc (aH _) _)).trans (Fr.ofGrownN NQ));have JF:Hid (∀k,Value.ownBlock (.slice Ih (n2+1) Iy)=some k->Value.ownBlock (.slice A1 n2 c1)=some k∨we.heap.size<=k):=aA fun k hk=>NE.imp (fun e=>by rw[<-e];exact hk) fun e=>by rw[hk]at e;have e:=Option.some.inj e;have l6:=((aM we.heap.size we).alloc (aH _) (.cells #[.pointer (some ⟨p,0,none⟩)] 125)).size;omega
 have hbe:b<we.heap.size:=by omega
 have Az:Hid (Blk wf b t (cs.setIfInBounds o (.slice iS (n+1) iT))):=aA (jK.out.blk RK.out Cj.out);have g1:=Az.out.frozen (o+1);have d2:wf.cell? ⟨b,o+1,none⟩=some (.slice A1 n2 c1):=by rw[Az.out.cell,Array.getElem?_setIfInBounds,if_neg (by omega)];exact F1.out
 clear vT NQ NE d1 f1;go_wp2_with fail;refine bodyPost_end (results_none rfl _ _ _) rfl ?_;have hF4:Fr (fun k=>k=b) wf (wf.setCell ⟨b,o+1,none⟩ (.slice Ih (n2+1) Iy)):=(Fr.refl (fun k=>k=b) wf).set (p:=⟨b,o+1,none⟩) rfl _;have AS:∀k,Value.ownBlock (.slice iS (n+1) iT)=some k->k≠b∧¬Value.ownBlock (.slice A1 n2 c1)=some k∧k<we.heap.size:=fun k hk=>by
  refine⟨fun e=>?_,fun e=>?_,bT HOE.out hk⟩
  ·subst e;rcases tY.out _ hk with h1|h1;exact sA h1;omega
  ·rcases tY.out k hk with h1|h1
   ·exact YD.out k h1 e
   ·have:=HCR.out k e;omega
 refine⟨rfl,.slice iS (n+1) iT,.slice Ih (n2+1) Iy,⟨fun t' cs' gX=>?_,?_,?_,?_,fun k hk=>?_,fun k hk=>?_,fun k h1 h2=>?_⟩⟩
 ·have he:=QJ.out
  unfold Blk at he gX;rw[he]at gX;injection gX with gX;injection gX with e1 e2;subst e1;subst e2;exact Az.out.set_ (o+1) _
 ·rw[HN.out,show aU (vs++ [(⟨nm,k,len⟩:Vr)])=aU vs++ [.string nm,.int .u8 k,.int .i64 len] by simp[aU]]
  exact bL (bL HOE.out jK.out fun k hk e=>(AS k hk).2.1 e) hF4 fun k hk e=>(AS k hk).1 e
 ·rw[SD.out]
  refine bL JR.out hF4 fun k hk e=>?_
  subst e;rcases JF.out _ hk with h1|h1
  ·exact Cj.out h1
  ·omega
 ·exact(((Fr.of aO.out).trans (IP.out.mono fun k hk=>hk.imp id .inl)).trans (jK.out.mono fun k hk=>.inr (.inr hk))).trans (hF4.mono fun k hk=>.inl hk)
 ·exact(tY.out k hk).imp id fun h=>by omega
 ·exact(JF.out k hk).imp id fun h=>by omega
 ·rcases JF.out k h2 with h3|h3
  ·exact(AS k h1).2.1 h3
  ·have:=(AS k h1).2.2;omega
end Go.Proofs.YtakfdnnlhjhcfaaGreatDoor
namespace Bk
open Go Go.RowKit
theorem wL{cs:Array Value}{i:Nat}{v:Value}(h:cs[i]?=some v):cs.setIfInBounds i v=cs:=by
 obtain⟨eI,he⟩:=Array.getElem?_eq_some_iff.1 h;rw[<-he];simp[Array.setIfInBounds,eI]
theorem PSt.setCur2(σ:PSt)(f g:PFr):(σ.setCur f).setCur g=σ.setCur g:=by
 unfold PSt.setCur;by_cases h:σ.calls= []
 ·simp[h]
 ·simp[h,List.set_eq_nil_iff]
theorem PSt.cur_setCur(σ:PSt)(f:PFr):(σ.setCur f).cur=f:=by
 unfold PSt.setCur PSt.cur;by_cases h:σ.calls= []
 ·simp[h]
 ·have h0:0<σ.calls.length:=List.length_pos_iff.2 h
  simp only[h,if_false];rw[List.getLastD_eq_getLast?,List.getLast?_eq_getElem?,List.length_set,List.getElem?_set_self (by omega)];rfl
end Bk
namespace Go.Proofs.YtakfdnnlhjhcfaaGreatDoor
open Go.RowKit Bk
section
variable{w w':World}{B:Nat}{S:Sv}{σ:PSt}{kd:Nat->Int}{m:Nat}
theorem SOn.rows(h:SOn w B S σ):(S.fx σ).1.ownBlock≠some (S.fb σ)∧(S.fx σ).2.ownBlock≠some (S.fb σ)∧∀k,(S.fx σ).1.ownBlock=some k->(S.fx σ).2.ownBlock=some k->False:=by
 obtain⟨hf,_,_,hr,_⟩:=h.cur;refine⟨fun e=>?_,fun e=>?_,fun k h1 h2=>?_⟩
 ·have:=hf.rv _ e;rcases hr with h|h<;>rw[h]at this<;>cases this
 ·have:=hf.rc _ e;rcases hr with h|h<;>rw[h]at this<;>cases this
 ·have a:=hf.rv k h1;have b:=hf.rc k h2;rw[a]at b;cases b
theorem SOn.setLoc(h:SOn w B S σ)(n:Nat):∃S',SOn (w.setCell ⟨S.fb σ,σ.fo+2,none⟩ (.int .i64 n)) B S' (σ.setCur {σ.cur with locals:=n})∧S.Ext S' w∧Fr S.O w (w.setCell ⟨S.fb σ,σ.fo+2,none⟩ (.int .i64 n)):=by
 obtain⟨hf,_,_,hr,_⟩:=h.cur;obtain⟨n1,n2,n3⟩:=h.rows;have hF:Fr (fun k=>k=S.fb σ) w (w.setCell ⟨S.fb σ,σ.fo+2,none⟩ (.int .i64 n)):=(Fr.refl (fun k=>k=S.fb σ) w).set (p:=⟨S.fb σ,σ.fo+2,none⟩) rfl _;obtain⟨t,cs,hb,q0,q1,q2⟩:=h.fbBlk;obtain⟨S',r1,r2,r3,_⟩:=h.setFr (f':={σ.cur with locals:=n}) (hF.mono fun k hk=>.inr (.inr hk)) (fun t' cs' gX=>by
  have e1:=hb;unfold Blk at e1 gX;rw[e1]at gX;injection gX with gX;injection gX with a1 a2;subst a1;subst a2;rw[wL q0,wL q1];exact hb.set_ _ _) (bL hf.vars hF fun k hk e=>n1 (by rw[hk,e])) (bL hf.refs hF fun k hk e=>n2 (by rw[hk,e])) (fun k hk=>.inl (hf.rv k hk)) (fun k hk=>.inl (hf.rc k hk)) n3
 exact⟨S',r1,r2,r3⟩
theorem SOn.addTo(h:SOn w B S σ){c:Nat}{u:Vr}{v' c':Value}(ha:Jw w B (S.fb σ) σ.fo (S.fx σ).1 (S.fx σ).2 σ.cur.vars (S.ptrs σ.cur.idx) u (.pointer (some ⟨S.cb c,0,none⟩)) w' v' c'):
  ∃S',SOn w' B S' (σ.setCur ⟨σ.cur.vars++ [u],σ.cur.idx++ [c],σ.cur.locals⟩)∧S.Ext S' w∧Fr S.O w w'∧S'.cb=S.cb∧S'.fb (σ.setCur ⟨σ.cur.vars++ [u],σ.cur.idx++ [c],σ.cur.locals⟩)=S.fb σ∧(σ.setCur ⟨σ.cur.vars++ [u],σ.cur.idx++ [c],σ.cur.locals⟩).fo=σ.fo:=by
 obtain⟨hf,_,_,hr,_⟩:=h.cur;obtain⟨t,cs,hb,q0,q1,q2⟩:=h.fbBlk;have hlen:(S.ptrs σ.cur.idx).length=σ.cur.idx.length:=by simp[Sv.ptrs]
 obtain⟨S',r1,r2,r3,r4,r5,r6,_⟩:=h.setFr (f':=⟨σ.cur.vars++ [u],σ.cur.idx++ [c],σ.cur.locals⟩) (ha.fr.mono fun k hk=>by
   rcases hk with hk|hk|hk
   ·exact .inr (.inr hk)
   ·exact .inl (hf.rv k hk)
   ·exact .inr (.inl (hf.rc k hk))) (fun t' cs' gX=>by
  have e1:=hb;have e2:=ha.blk _ _ hb;unfold Blk at e1 gX;rw[e1]at gX;injection gX with gX;injection gX with a1 a2;subst a1;subst a2;rw[wL (i:=σ.fo+2) (by rw[Array.getElem?_setIfInBounds,if_neg (by omega),Array.getElem?_setIfInBounds,if_neg (by omega)];exact q2)];exact e2) (by have:=ha.vars;simpa using this) (by have:=ha.refs;rw[hlen]at this;show w'.ownsRow B _ 1 c' (σ.cur.idx++ [c]).length (S.ptrs (σ.cur.idx++ [c]));rw[show S.ptrs (σ.cur.idx++ [c])=S.ptrs σ.cur.idx++ [.pointer (some ⟨S.cb c,0,none⟩)] by simp[Sv.ptrs],List.length_append];exact this) (fun k hk=>(ha.hv k hk).imp (hf.rv k) id) (fun k hk=>(ha.hc k hk).imp (hf.rc k) id) ha.ne
 exact⟨S',r1,r2,r3,r4,r5,r6⟩
theorem LL(h:SOn w B S σ)(hB:B<=w.heap.size)(Gf:σ.cur.vars.length<=10000)(hl:σ.cur.idx.length=σ.cur.vars.length)(u:Vr)(c:Nat):
  Calls Tryz.prog 63 #[.pointer (some ⟨S.fb σ,σ.fo,none⟩),.agg #[.string u.nm,.int .u8 u.k,.int .i64 u.len],.pointer (some ⟨S.cb c,0,none⟩)] w fun e w'=>e=.returned (.tuple #[])∧∃S',SOn w' B S' (σ.setCur ⟨σ.cur.vars++ [u],σ.cur.idx++ [c],σ.cur.locals⟩)∧S.Ext S' w∧Fr S.O w w'∧S'.cb=S.cb∧S'.fb (σ.setCur ⟨σ.cur.vars++ [u],σ.cur.idx++ [c],σ.cur.locals⟩)=S.fb σ∧(σ.setCur ⟨σ.cur.vars++ [u],σ.cur.idx++ [c],σ.cur.locals⟩).fo=σ.fo:=by
 obtain⟨hf,_,_,hr,_⟩:=h.cur;obtain⟨t,cs,hb,q0,q1,q2⟩:=h.fbBlk;obtain⟨n1,n2,n3⟩:=h.rows;have hlen:(S.ptrs σ.cur.idx).length=σ.cur.idx.length:=by simp[Sv.ptrs]
 refine(ZV hB hb q0 q1 hf.vars (by rw[hlen];exact hf.refs) n1 n2 n3 (by omega) (by omega) u (S.cb c)).mono ?_;rintro e w' ⟨rfl,v',c',ha⟩;exact⟨rfl,h.addTo ha⟩
theorem wE{w:World}{base:Nat}{t:TypeId}:w.ownsRow base t 1 (.slice none 0 0) 0 []:=⟨rfl,.inl ⟨rfl,rfl⟩⟩
theorem WS{w:World}{base g:Nat}{t:TypeId}{v:Value}(h:Blk w g t #[v])(hg:base<=g):w.ownsRow base t 1 (.slice (some ⟨g,0,none⟩) 1 1) 1 [v]:=
 gA h hg (aH _) (by decide) rfl rfl fun j u hj=>by simpa using hj
theorem GS(h:SOn w B S σ)(hB:B<=w.heap.size)(ho:σ.Ok kd m)(hm:m<=5000){W:World}(hb:Below w.heap.size w W){g:Nat}{val:Value}{l:List Int}(hg:w.heap.size<=g)(f8:Blk W g 127 #[val])(d9:W.ownsRow w.heap.size 3 1 val l.length (aC l))(dG:val.ownBlock≠some g)(u:Vr):
  Calls Tryz.prog 63 #[.pointer (some ⟨S.fb σ,σ.fo,none⟩),.agg #[.string u.nm,.int .u8 u.k,.int .i64 u.len],.pointer (some ⟨g,0,none⟩)] W fun e w'=>e=.returned (.tuple #[])∧w'.cell? ⟨S.fb σ,σ.fo+2,none⟩=some (.int .i64 σ.cur.locals)∧w'.frozen? ⟨S.fb σ,σ.fo+2,none⟩=false∧S.fb σ<w'.heap.size∧(∃S',SOn (w'.setCell ⟨S.fb σ,σ.fo+2,none⟩ (.int .i64 (σ.cur.locals+1:Nat))) B S' (({σ with cells:=σ.cells++ [l]}:PSt).setCur ⟨σ.cur.vars++ [u],σ.cur.idx++ [σ.cells.length],σ.cur.locals+1⟩)∧S.Ext S' w)∧Fr S.O w (w'.setCell ⟨S.fb σ,σ.fo+2,none⟩ (.int .i64 (σ.cur.locals+1:Nat))):=by
 have hI:∀f,f=σ.base∨f∈σ.calls->∀i,i∈f.idx->i<σ.cells.length:=fun f hf i hi=>by
  have hok:f.Ok kd σ.cells.length m:=by
   rcases hf with rfl|hf
   ·exact ho.base
   ·exact ho.calls f hf
  obtain⟨j,hj⟩:=List.mem_iff_getElem?.1 hi;have AG:=(lgS.1 hj).1;have:=hok.len;exact(hok.kind j _ i (dR (by omega)) hj).1
 obtain⟨S1,h1,x1,c1,f1,v1⟩:=h.addCell hI hb hg hB f8 d9 dG;have lO:B<=W.heap.size:=fC hB hb.size;have hcu:({σ with cells:=σ.cells++ [l]}:PSt).cur=σ.cur:=rfl;have Gf:=ho.cur.bd;have hc:=LL h1 lO (by rw[hcu];omega) (by rw[hcu];exact ho.cur.len) u σ.cells.length;rw[f1,c1]at hc;refine hc.mono ?_;rintro e w' ⟨rfl,S2,h2,x2,r2,c2,f2,o2⟩;have hs:W.heap.size<=w'.heap.size:=r2.size;obtain⟨hf,⟨_,_,q3⟩,_⟩:=h2.cur;obtain⟨t,cs,mQ,_,_,_⟩:=h2.fbBlk;have aAm:(({σ with cells:=σ.cells++ [l]}:PSt).setCur ⟨({σ with cells:=σ.cells++ [l]}:PSt).cur.vars++ [u],({σ with cells:=σ.cells++ [l]}:PSt).cur.idx++ [σ.cells.length],({σ with cells:=σ.cells++ [l]}:PSt).cur.locals⟩).cur=⟨σ.cur.vars++ [u],σ.cur.idx++ [σ.cells.length],σ.cur.locals⟩:=PSt.cur_setCur _ _;obtain⟨S3,h3,x3,r3⟩:=h2.setLoc (σ.cur.locals+1);rw[f2,o2]at h3 r3 q3;rw[f2]at mQ;rw[aAm]at q3 h3;rw[PSt.setCur2]at h3;have x12:S.Ext S2 w:=x1.trans x2 hb.size;refine⟨rfl,q3,mQ.frozen _,mQ.lt,⟨S3,h3,x12.trans x3 (fC hb.size hs)⟩,?_⟩;have r12:Fr S.O w w':=x1.fr (Fr.of hb) r2;exact x12.fr r12 r3
theorem Dw(h:SOn w B S σ)(hB:B<=w.heap.size)(ho:σ.Ok kd m)(hm:m<=5000)(x:ByteArray)(k:Int)(hk:k=1∨k=3)(v:Int)(Qu:σ.cur.locals<=10000):
  Calls Tryz.prog 105 #[.pointer (some ⟨S.st,0,none⟩),.agg #[.string x,.int .u8 k,.int .i64 0],.int .i64 v] w fun e w'=>RetS B S w (cX ⟨x,k,0⟩ (if k=1 then [v]else []) σ) e w':=by
 have CE:Hid (∀W,Below w.heap.size w W->Calls Tryz.prog 130 #[.pointer (some ⟨S.st,0,none⟩)] W fun e w'=>e=.returned (.pointer (some ⟨S.fb σ,σ.fo,none⟩))∧W=w'):=aA fun W hW=>(gQ (h.next hW) ho.nc).mono fun e w' h=>⟨h.1,h.2.symm⟩
 have tF:Hid (∀W,Below w.heap.size w W->Calls Tryz.prog 131 #[.pointer (some ⟨S.fb σ,σ.fo,none⟩),.string x] W fun e w'=>e=.returned (.int .i64 (i7 x σ.cur.vars))∧W=w'):=aA fun W hW=>(zT (h.next hW) (by have:=ho.cur.bd;omega) x).mono fun e w' h=>⟨h.1,h.2.symm⟩
 have H:=aA h;have HO:=aA ho;unfold cX;cases hs:bK x σ.cur.vars with
 |some i=>
  rw[if_pos (show(some i).isSome=true from rfl)];rw[i8 hs]at tF;generalize S.fb σ=fb at *;generalize σ.fo=fo at *;clear h ho hs;rcases hk with rfl|rfl
  all_goals
   go_enter Tryz.func105,Tryz.ntmps105;go_upto_region 1 with fail;refine aB ?_;intro w1 aF;have aG:Below w.heap.size w w1:=(by rw[aF];go_grown);have K1:=aA (Blk.new w 72 #[.string x,.int .u8 1,.int .i64 0]);have K3:=aA (Blk.new w 72 #[.string x,.int .u8 3,.int .i64 0]);have aO:=aA aG
   first
    |(rw[<-aF]at K1;obtain⟨aL,aJ,aK⟩:=K1.out.open_)
    |(rw[<-aF]at K3;obtain⟨aL,aJ,aK⟩:=K3.out.open_)
   clear aF aG K1 K3;go_wp2_with fail;refine(CE.out w1 aO.out).mono ?_;rintro en w2 ⟨rfl,rfl⟩;go_wp2_with fail;refine(tF.out w1 aO.out).mono ?_;rintro en w2 ⟨rfl,rfl⟩;go_wp2_with fail;go_ret;exact⟨rfl,by decide,Fr.of aO.out⟩
 |none=>
  rw[if_neg (by simp)];rw[pB hs]at tF;have Ti:Hid (∀W:World,Below w.heap.size w W->∀(g:Nat)(val:Value)(l:List Int),w.heap.size<=g->Blk W g 127 #[val]->W.ownsRow w.heap.size 3 1 val l.length (aC l)->val.ownBlock≠some g->
    Calls Tryz.prog 63 #[.pointer (some ⟨S.fb σ,σ.fo,none⟩),.agg #[.string x,.int .u8 k,.int .i64 0],.pointer (some ⟨g,0,none⟩)] W fun e w'=>e=.returned (.tuple #[])∧w'.cell? ⟨S.fb σ,σ.fo+2,none⟩=some (.int .i64 σ.cur.locals)∧w'.frozen? ⟨S.fb σ,σ.fo+2,none⟩=false∧S.fb σ<w'.heap.size∧(∃S',SOn (w'.setCell ⟨S.fb σ,σ.fo+2,none⟩ (.int .i64 (σ.cur.locals+1:Nat))) B S' (({σ with cells:=σ.cells++ [l]}:PSt).setCur ⟨σ.cur.vars++ [⟨x,k,0⟩],σ.cur.idx++ [σ.cells.length],σ.cur.locals+1⟩)∧S.Ext S' w)∧Fr S.O w (w'.setCell ⟨S.fb σ,σ.fo+2,none⟩ (.int .i64 (σ.cur.locals+1:Nat)))):=
   aA fun W hW g val l hg f8 d9 dG=>GS H.out hB HO.out hm hW hg f8 d9 dG ⟨x,k,0⟩
  have HLW:IntKind.i64.wrap ((σ.cur.locals:Int)+1)=(σ.cur.locals:Int)+1:=wrap_small _ (by omega) (by omega);generalize S.fb σ=fb at *;generalize σ.fo=fo at *;generalize σ.cur.locals=lc at *;clear h ho hs;have HR:∀e w',(e=.returned (.int .i64 0)∧(∃S',SOn w' B S' (({σ with cells:=σ.cells++ [if k=1 then [v]else []]}:PSt).setCur ⟨σ.cur.vars++ [⟨x,k,0⟩],σ.cur.idx++ [σ.cells.length],lc+1⟩)∧S.Ext S' w)∧Fr S.O w w')->RetS B S w (.ok (({σ with cells:=σ.cells++ [if k=1 then [v]else []]}:PSt).setCur ⟨σ.cur.vars++ [⟨x,k,0⟩],σ.cur.idx++ [σ.cells.length],lc+1⟩)) e w':=fun e w' h=>h
  replace HR:=aA HR;rcases hk with rfl|rfl
  ·rw[if_pos rfl]at*
   go_enter Tryz.func105,Tryz.ntmps105;go_upto_region 1 with fail;refine aB ?_;intro w1 aF;have aG:Below w.heap.size w w1:=(by rw[aF];go_grown);have K1:=aA (Blk.new w 72 #[.string x,.int .u8 1,.int .i64 0]);have aO:=aA aG;have hs1:=aG.size;rw[<-aF]at K1;obtain⟨aL,aJ,aK⟩:=K1.out.open_;clear aF aG K1;go_wp2_with fail;refine(CE.out w1 aO.out).mono ?_;rintro en w2 ⟨rfl,rfl⟩;go_wp2_with fail;refine(tF.out w1 aO.out).mono ?_;rintro en w2 ⟨rfl,rfl⟩;go_wp2_with fail;refine(Ti.out _ (aO.out.trans (by go_grown)) w1.heap.size (.slice (some ⟨w1.heap.size+1,0,none⟩) 1 1) [v] hs1 aQ (WS aQ (by omega)) (by simp[Value.ownBlock])).mono ?_;rintro en w2 ⟨rfl,hc,hf,hl,hj⟩;have HJ:=aA hj;clear hj;go_wp2_with fail;go_ret;exact HR.out _ _ ⟨rfl,HJ.out⟩
  ·rw[if_neg (by decide)]at*
   go_enter Tryz.func105,Tryz.ntmps105;go_upto_region 1 with fail;refine aB ?_;intro w1 aF;have aG:Below w.heap.size w w1:=(by rw[aF];go_grown);have K1:=aA (Blk.new w 72 #[.string x,.int .u8 3,.int .i64 0]);have aO:=aA aG;have hs1:=aG.size;rw[<-aF]at K1;obtain⟨aL,aJ,aK⟩:=K1.out.open_;clear aF aG K1;go_wp2_with fail;refine(CE.out w1 aO.out).mono ?_;rintro en w2 ⟨rfl,rfl⟩;go_wp2_with fail;refine(tF.out w1 aO.out).mono ?_;rintro en w2 ⟨rfl,rfl⟩;go_wp2_with fail;refine(Ti.out _ (aO.out.trans (by go_grown)) w1.heap.size (.slice none 0 0) [] hs1 aQ wE (by simp[Value.ownBlock])).mono ?_;rintro en w2 ⟨rfl,hc,hf,hl,hj⟩;have HJ:=aA hj;clear hj;go_wp2_with fail;go_ret;exact HR.out _ _ ⟨rfl,HJ.out⟩
end
end Go.Proofs.YtakfdnnlhjhcfaaGreatDoor
