/- Part of the proof. -/
import Derived.Test.YtakfdnnlhjhcfaaGreatDoorA12
set_option linter.unusedVariables false
set_option linter.unusedSimpArgs false
set_option maxRecDepth 100000
set_option maxHeartbeats 4000000
namespace Go.Proofs.YtakfdnnlhjhcfaaGreatDoor
open Go.RowKit Bk
theorem R6{w:World}{B tb o n:Nat}{v:Value}{l l':List Int}(hc:w.cell? ⟨tb,o,none⟩=some v)(hf:w.frozen? ⟨tb,o,none⟩=false)(ho:w.ownsRow B 3 1 v l.length (aC l))(DO:v.ownBlock≠some tb)(hl:l.length<4096)(x:Int)
  (hI:∀w1,Below w.heap.size w w1->w1.heap.size=w.heap.size+1->Blk w1 w.heap.size 3 #[.int .i64 x]->Calls Tryz.prog 207 #[v,.int .i64 n,.slice (some ⟨w.heap.size,0,none⟩) 1 1] w1 fun e w'=>ST w1 B v l' e w'):
  Calls Tryz.prog 192 #[.pointer (some ⟨tb,o,none⟩),.int .i64 n,.int .i64 x] w fun e w'=>e=.returned (.int .i64 0)∧∃w2 v',w'=w2.setCell ⟨tb,o,none⟩ v'∧w2.ownsRow B 3 1 v' l'.length (aC l')∧Fr (fun k=>v.ownBlock=some k) w w2∧∀k,v'.ownBlock=some k->v.ownBlock=some k∨w.heap.size<=k:=by
 have Sa:tb<w.heap.size:=block_lt_of_cell hc;obtain⟨A,c,rfl⟩:=aI ho;have HI:=aA hI;have HL:=aA ho;have mS:decide (4096<=(l.length:Int))=false:=by simp;omega
 generalize l.length=ln at *;have EZ:=aA DO;have HC:=aA hc;have HF:=aA hf;clear hI ho DO hl;go_enter Tryz.func192,Tryz.ntmps192;go_wp2_with fail;refine(HI.out _ ((aM _ _).alloc (aH _) _) (by simp) (Blk.new _ _ _)).mono ?_;rintro e w2 ⟨v',rfl,DK,iJ,AS⟩;have E9:=aA DK;have Zl:=aA AS;have lG:Hid (Fr (fun k=>(Value.slice A ln c).ownBlock=some k) w w2):=aA ((Fr.of ((aM _ _).alloc (aH _) _)).trans iJ);obtain⟨A2,c2,rfl⟩:=aI DK;have d0:=(lG.out.cell (b:=tb) Sa (fun h=>EZ.out h) o).trans HC.out;have g0:w2.frozen? ⟨tb,o,none⟩=false:=(World.frozen?_of_block (a:=⟨tb,o,none⟩) (lG.out.block tb Sa (fun h=>EZ.out h))).trans HF.out;clear hc hf DK iJ AS;go_wp2_with fail;go_ret;refine⟨rfl,w2,_,rfl,E9.out,lG.out,fun k hk=>(Zl.out k hk).imp id fun h=>?_⟩;simp at h;omega
theorem yZ{w:World}{tb o n c:Nat}{A:Option Addr}{ln:Nat}(hc:w.cell? ⟨tb,o,none⟩=some (.slice A ln c))(hl:4096<=ln)(x:Int):
  Calls Tryz.prog 192 #[.pointer (some ⟨tb,o,none⟩),.int .i64 n,.int .i64 x] w fun e w'=>e=.returned (.int .i64 5)∧Below w.heap.size w w':=by
 have mS:decide (4096<=(ln:Int))=true:=by simp;omega
 go_enter Tryz.func192,Tryz.ntmps192;go_wp2_with fail;go_ret;exact⟨rfl,by go_grown⟩
theorem R7{w:World}{B tb o i:Nat}{v:Value}{l:List Int}(hc:w.cell? ⟨tb,o,none⟩=some v)(hf:w.frozen? ⟨tb,o,none⟩=false)(ho:w.ownsRow B 3 1 v l.length (aC l))(DO:v.ownBlock≠some tb)(hi:i<l.length)(hl:l.length<=4096):
  Calls Tryz.prog 191 #[.pointer (some ⟨tb,o,none⟩),.int .i64 i] w fun e w'=>e=.returned (.tuple #[.int .i64 (l.getD i 0),.int .i64 0])∧∃w2 v',w'=w2.setCell ⟨tb,o,none⟩ v'∧w2.ownsRow B 3 1 v' (l.length-1) (aC (l.take i++l.drop (i+1)))∧Fr (fun k=>v.ownBlock=some k) w w2∧v'.ownBlock=v.ownBlock:=by
 have Sa:tb<w.heap.size:=block_lt_of_cell hc;obtain⟨g,c,rfl,_,gR,_,_,hcl⟩:=d6 ho (by omega);have HD:=aA (Nu ho rfl hi);have d1:=hcl i _ (eJ _ _ hi);have hz:((l.length:Int)==0)=false:=bqN.2 (by omega);have j0:(0:Int)<=(i:Int):=by omega
 have j1:(i:Int)<(l.length:Int):=by omega
 have j2:wrap64 ((i:Int)+1)=(i:Int)+1:=by unfold wrap64;omega
 generalize l.getD i 0=y at *;generalize l.length=ln at *;have EZ:=aA DO;have HC:=aA hc;have HF:=aA hf;clear ho DO hcl;go_enter Tryz.func191,Tryz.ntmps191;go_wp2_with fail;refine HD.out.mono ?_;rintro e w2 ⟨rfl,DK,iJ⟩;have E9:=aA DK;have lG:Hid (Fr (fun k=>(Value.slice (some ⟨g,0,none⟩) ln c).ownBlock=some k) w w2):=aA (iJ.mono fun k hk=>by rw[hk];rfl);have d0:=(lG.out.cell (b:=tb) Sa (fun h=>EZ.out h) o).trans HC.out;have g0:w2.frozen? ⟨tb,o,none⟩=false:=(World.frozen?_of_block (a:=⟨tb,o,none⟩) (lG.out.block tb Sa (fun h=>EZ.out h))).trans HF.out;clear hc hf DK iJ d1;go_wp2_with fail;refine bodyPost_ret_by (results_tmp2 rfl _ _ _) rfl ?_;exact⟨rfl,w2,_,rfl,E9.out,lG.out,rfl⟩
theorem y4{w:World}{tb o c:Nat}{A:Option Addr}{i:Int}(hc:w.cell? ⟨tb,o,none⟩=some (.slice A 0 c)):
  Calls Tryz.prog 191 #[.pointer (some ⟨tb,o,none⟩),.int .i64 i] w fun e w'=>e=.returned (.tuple #[.int .i64 0,.int .i64 17])∧Below w.heap.size w w':=by
 go_enter Tryz.func191,Tryz.ntmps191;go_wp2_with fail;refine bodyPost_ret_by (results_tmp2 rfl _ _ _) rfl ?_;exact⟨rfl,by go_grown⟩
structure TpAt(w:World)(B tb:Nat)(vi vo:Value)(a b:List Int):Prop where
 blk:Blk w tb 156 #[vi,vo]
 inp:w.ownsRow B 3 1 vi a.length (aC a)
 out:w.ownsRow B 3 1 vo b.length (aC b)
 ni:vi.ownBlock≠some tb
 no:vo.ownBlock≠some tb
 ne:∀k,vi.ownBlock=some k->vo.ownBlock=some k->False
structure TpP(w:World)(B tb:Nat)(vi vo:Value)(a b:List Int)(w':World)(vi' vo':Value):Prop where
 at_:TpAt w' B tb vi' vo' a b
 fr:Fr (fun k=>k=tb∨vi.ownBlock=some k∨vo.ownBlock=some k) w w'
 hi:∀k,vi'.ownBlock=some k->vi.ownBlock=some k∨w.heap.size<=k
 ho:∀k,vo'.ownBlock=some k->vo.ownBlock=some k∨w.heap.size<=k
section
variable{w:World}{B tb:Nat}{vi vo:Value}{a b:List Int}
theorem TpAt.next{w':World}(h:TpAt w B tb vi vo a b)(hb:Below w.heap.size w w'):TpAt w' B tb vi vo a b:=⟨h.blk.next hb,aZ h.inp hb (aH _),aZ h.out hb (aH _),h.ni,h.no,h.ne⟩
theorem TpAt.inTo(h:TpAt w B tb vi vo a b){w2:World}{v':Value}{a':List Int}(ho:w2.ownsRow B 3 1 v' a'.length (aC a'))(hf:Fr (fun k=>vi.ownBlock=some k) w w2)(hv:∀k,v'.ownBlock=some k->vi.ownBlock=some k∨w.heap.size<=k):TpP w B tb vi vo a' b (w2.setCell ⟨tb,0,none⟩ v') v' vo:=by
 have hb2:=hf.blk h.blk fun e=>h.ni e
 have rU:Fr (fun k=>k=tb) w2 (w2.setCell ⟨tb,0,none⟩ v'):=(Fr.refl (fun k=>k=tb) w2).set (p:=⟨tb,0,none⟩) rfl _;have eI:=h.blk.lt;have hn:∀k,v'.ownBlock=some k->k≠tb:=fun k hk e=>by subst e;rcases hv k hk with h1|h1;exact h.ni h1;omega
 have hol:∀k,vo.ownBlock=some k->k<w.heap.size:=fun k hk=>bT h.out hk
 refine⟨⟨by simpa using hb2.set_ 0 v',bL ho rU fun k hk=>hn k hk,bL (bL h.out hf fun k hk e=>h.ne k e hk) rU fun k hk e=>h.no (by rw[hk,e]),fun e=>hn _ e rfl,h.no,fun k h1 h2=>?_⟩,⟨rU.os.trans hf.os,rU.tape.trans hf.tape,rU.output.trans hf.output,fC hf.size rU.size,fun k hk ho=>(rU.block k (dX hk hf.size) fun e=>ho (.inl e)).trans (hf.block k hk fun e=>ho (.inr (.inl e)))⟩,hv,fun k hk=>.inl hk⟩;rcases hv k h1 with h3|h3
 ·exact h.ne k h3 h2
 ·have:=hol k h2;omega
theorem TpAt.outTo(h:TpAt w B tb vi vo a b){w2:World}{v':Value}{b':List Int}(ho:w2.ownsRow B 3 1 v' b'.length (aC b'))(hf:Fr (fun k=>vo.ownBlock=some k) w w2)(hv:∀k,v'.ownBlock=some k->vo.ownBlock=some k∨w.heap.size<=k):TpP w B tb vi vo a b' (w2.setCell ⟨tb,1,none⟩ v') vi v':=by
 have hb2:=hf.blk h.blk fun e=>h.no e
 have rU:Fr (fun k=>k=tb) w2 (w2.setCell ⟨tb,1,none⟩ v'):=(Fr.refl (fun k=>k=tb) w2).set (p:=⟨tb,1,none⟩) rfl _;have eI:=h.blk.lt;have hn:∀k,v'.ownBlock=some k->k≠tb:=fun k hk e=>by subst e;rcases hv k hk with h1|h1;exact h.no h1;omega
 have mT:∀k,vi.ownBlock=some k->k<w.heap.size:=fun k hk=>bT h.inp hk
 refine⟨⟨by simpa using hb2.set_ 1 v',bL (bL h.inp hf fun k hk e=>h.ne k hk e) rU fun k hk e=>h.ni (by rw[hk,e]),bL ho rU fun k hk=>hn k hk,h.ni,fun e=>hn _ e rfl,fun k h1 h2=>?_⟩,⟨rU.os.trans hf.os,rU.tape.trans hf.tape,rU.output.trans hf.output,fC hf.size rU.size,fun k hk ho=>(rU.block k (dX hk hf.size) fun e=>ho (.inl e)).trans (hf.block k hk fun e=>ho (.inr (.inr e)))⟩,fun k hk=>.inl hk,hv⟩;rcases hv k h2 with h3|h3
 ·exact h.ne k h1 h3
 ·have:=mT k h1;omega
theorem TpP.pre{w1 w':World}{vi' vo':Value}{a' b':List Int}(hb:Below w.heap.size w w1)(h:TpP w1 B tb vi vo a' b' w' vi' vo'):TpP w B tb vi vo a' b' w' vi' vo':=
 ⟨h.at_,(Fr.of hb).trans h.fr,fun k hk=>(h.hi k hk).imp id fun e=>fC hb.size e,fun k hk=>(h.ho k hk).imp id fun e=>fC hb.size e⟩
theorem I9(h:TpAt w B tb vi vo a b)(hB:B<=w.heap.size)(hl:a.length<4096)(x:Int):Calls Tryz.prog 176 #[.pointer (some ⟨tb,0,none⟩),.int .i64 x] w fun e w'=>e=.returned (.int .i64 0)∧∃vi' vo',TpP w B tb vi vo (x::a) b w' vi' vo':=by
 have HC:=aA (R6 (n:=0) (h.blk.cell 0) (h.blk.frozen 0) h.inp h.ni hl x (l':=x::a) fun w1 hb hs K=>FF (aZ h.inp hb (aH _)) (by omega) (by omega) x K (fun e=>by have:=bT h.inp e;omega));have H:=aA h;clear h;go_enter Tryz.func176,Tryz.ntmps176;go_wp2_with fail;refine HC.out.mono ?_;rintro e w' ⟨rfl,w2,v',rfl,h1,h2,h3⟩;have HP:=aA (H.out.inTo h1 h2 h3);clear h1 h2 h3;generalize w2.setCell ⟨tb,0,none⟩ v'=w3 at *;go_wp2_with fail;go_ret;exact⟨rfl,_,_,HP.out⟩
theorem FJ(h:TpAt w B tb vi vo a b)(hl:4096<=a.length)(x:Int):Calls Tryz.prog 176 #[.pointer (some ⟨tb,0,none⟩),.int .i64 x] w fun e w'=>e=.returned (.int .i64 5)∧Below w.heap.size w w':=by
 obtain⟨A,c,rfl⟩:=aI h.inp;have HC:=aA (yZ (n:=0) (h.blk.cell 0) hl x);clear h;go_enter Tryz.func176,Tryz.ntmps176;go_wp2_with fail;refine HC.out.mono ?_;rintro e w' ⟨rfl,hb⟩;have HB:=aA hb;clear hb;go_wp2_with fail;go_ret;exact⟨rfl,HB.out⟩
theorem Dx(h:TpAt w B tb vi vo a b)(hl:0<a.length)(hm:a.length<=4096):Calls Tryz.prog 175 #[.pointer (some ⟨tb,0,none⟩)] w fun e w'=>e=.returned (.tuple #[.int .i64 (a.headD 0),.int .i64 0])∧∃vi' vo',TpP w B tb vi vo a.tail b w' vi' vo':=by
 have HC:=aA (R7 (v:=vi) (h.blk.cell 0) (h.blk.frozen 0) h.inp h.ni hl hm);have H:=aA h;have HE:Hid (a.getD 0 0=a.headD 0∧a.take 0++a.drop (0+1)=a.tail∧a.length-1=a.tail.length):=aA (by cases a<;>simp);rw[HE.out.1,HE.out.2.1,HE.out.2.2]at HC;generalize a.headD 0=y at *;clear h;go_enter Tryz.func175,Tryz.ntmps175;go_wp2_with fail;refine HC.out.mono ?_;rintro e w' ⟨rfl,w2,v',rfl,h1,h2,h3⟩;have HP:=aA (H.out.inTo h1 h2 fun k hk=>.inl (by rw[<-h3];exact hk));clear h1 h2 h3;generalize w2.setCell ⟨tb,0,none⟩ v'=w3 at *;go_wp2_with fail;refine bodyPost_ret_by (results_tmp2 rfl _ _ _) rfl ?_;exact⟨rfl,_,_,HP.out⟩
theorem TH(h:TpAt w B tb vi vo a b)(hl:a= []):Calls Tryz.prog 175 #[.pointer (some ⟨tb,0,none⟩)] w fun e w'=>e=.returned (.tuple #[.int .i64 0,.int .i64 17])∧Below w.heap.size w w':=by
 subst hl;obtain⟨A,c,rfl⟩:=aI h.inp;have HC:=aA (y4 (i:=0) (h.blk.cell 0));clear h;go_enter Tryz.func175,Tryz.ntmps175;go_wp2_with fail;refine HC.out.mono ?_;rintro e w' ⟨rfl,hb⟩;have HB:=aA hb;clear hb;go_wp2_with fail;refine bodyPost_ret_by (results_tmp2 rfl _ _ _) rfl ?_;exact⟨rfl,HB.out⟩
theorem CU(h:TpAt w B tb vi vo a b)(hB:B<=w.heap.size)(hl:b.length<4096)(x:Int):Calls Tryz.prog 178 #[.pointer (some ⟨tb,0,none⟩),.int .i64 x] w fun e w'=>e=.returned (.int .i64 0)∧∃vi' vo',TpP w B tb vi vo a (b++ [x]) w' vi' vo':=by
 have HC:=aA (fun W(hW:Below w.heap.size w W)=>have hn:=h.next hW;R6 (v:=vo) (n:=b.length) (hn.blk.cell 1) (hn.blk.frozen 1) hn.out hn.no hl x (l':=b++ [x]) fun w1 hb hs K=>I8 (aZ hn.out hb (aH _)) (by have:=hW.size;omega) (by omega) x K);have H:=aA h;obtain⟨A,c,rfl⟩:=aI h.out;obtain⟨z_,T_,F_⟩:=h.blk.open_;generalize b.length=n at *;clear h;go_enter Tryz.func178,Tryz.ntmps178;go_wp2_with fail
 go_still_tail 9,(by kernel_rfl)
 change wpList _ _ _ _ _ w.drew;go_wp2_with fail;refine(HC.out _ (by go_grown)).mono ?_;rintro e w' ⟨rfl,w2,v',rfl,h1,h2,h3⟩;have HP:=aA (TpP.pre (w:=w) (by go_grown) ((H.out.next (w':=w.drew) (by go_grown)).outTo h1 h2 h3));clear h1 h2 h3 T_ z_ F_;generalize w2.setCell ⟨tb,1,none⟩ v'=w3 at *;go_wp2_with fail;go_ret;exact⟨rfl,_,_,HP.out⟩
theorem LK(h:TpAt w B tb vi vo a b)(hl:4096<=b.length)(x:Int):Calls Tryz.prog 178 #[.pointer (some ⟨tb,0,none⟩),.int .i64 x] w fun e w'=>e=.returned (.int .i64 5)∧Below w.heap.size w w':=by
 obtain⟨A,c,rfl⟩:=aI h.out;have HC:=aA (fun W(hW:Below w.heap.size w W)=>yZ (n:=b.length) ((h.next hW).blk.cell 1) hl x);obtain⟨z_,T_,F_⟩:=h.blk.open_;generalize b.length=n at *;clear h;go_enter Tryz.func178,Tryz.ntmps178;go_wp2_with fail
 go_still_tail 9,(by kernel_rfl)
 change wpList _ _ _ _ _ w.drew;go_wp2_with fail;refine(HC.out _ (by go_grown)).mono ?_;rintro e w' ⟨rfl,hb⟩;have HB:Hid (Below w.heap.size w w'):=aA (Below.next (by go_grown) hb);clear hb T_ z_ F_;go_wp2_with fail;go_ret;exact⟨rfl,HB.out⟩
theorem FK(h:TpAt w B tb vi vo a b)(hl:0<b.length)(hm:b.length<=4096):Calls Tryz.prog 177 #[.pointer (some ⟨tb,0,none⟩)] w fun e w'=>e=.returned (.tuple #[.int .i64 (b.getLastD 0),.int .i64 0])∧∃vi' vo',TpP w B tb vi vo a b.dropLast w' vi' vo':=by
 have HC:=aA (fun W(hW:Below w.heap.size w W)=>R7 (v:=vo) (i:=b.length-1) ((h.next hW).blk.cell 1) ((h.next hW).blk.frozen 1) (h.next hW).out (h.next hW).no (by omega) hm);have H:=aA h;have HE:Hid (b.getD (b.length-1) 0=b.getLastD 0∧b.take (b.length-1)++b.drop (b.length-1+1)=b.dropLast∧b.length-1=b.dropLast.length):=aA ⟨by rw[List.getLastD_eq_getLast?,List.getLast?_eq_getElem?,eX],by rw[List.drop_eq_nil_of_le (by omega),List.append_nil,List.dropLast_eq_take],by simp⟩;rw[HE.out.1,HE.out.2.1]at HC;have HL:Hid (b.length-1=b.dropLast.length):=aA HE.out.2.2;obtain⟨A,c,rfl⟩:=aI h.out;obtain⟨z_,T_,F_⟩:=h.blk.open_;generalize b.getLastD 0=y at *;clear h HE;obtain⟨n,hn⟩:∃n,b.length=n+1:=⟨b.length-1,by omega⟩;rw[hn]at HC H T_ HL hm⊢;rw[Nat.add_sub_cancel]at HC HL;have hw:IntKind.i64.wrap (n:Int)=(n:Int):=wrap_small _ (by omega) (by omega);clear hn hl;go_enter Tryz.func177,Tryz.ntmps177;go_wp2_with fail;refine wp_region_held_drew (S:=fun W=>True) (by kernel_rfl) (trivial) (fun hH=>?_);change wpAnyH _ _ _ _ _ _ _ _ w.drew;refine aW 0 (v:=?_) rfl hH ?_;(try simp only[PU,aD])
 refine aW 1 (v:=?_) rfl hH ?_;(try simp only[PU,aD])
 refine aW 2 (v:=?_) rfl hH ?_;(try simp only[PU,aD])
 refine aW 3 (v:=?_) rfl hH ?_;(try simp only[PU,aD])
 refine aW 4 (v:=?_) rfl hH ?_;(try simp only[PU,aD])
 refine aW 5 (v:=?_) rfl hH ?_;(try simp only[PU,aD])
 refine cE 6 (by kernel_rfl) rfl (fun K hK=>?_);go_simp;refine hK.out _ _ trivial (fun _=>?_);clear hK;(try simp only[PU,aD])
 refine aW 7 (v:=?_) rfl hH ?_;(try simp only[PU,aD])
 refine aW 8 (v:=?_) rfl hH ?_;(try simp only[PU,aD])
 refine cE 9 (by kernel_rfl) rfl (fun K hK=>?_);go_simp;(try rw[hw])
 refine(HC.out _ (by go_grown)).mono ?_;rintro e w' ⟨rfl,w2,v',rfl,h1,h2,h3⟩;rw[HL.out]at h1;have HP:=aA (TpP.pre (w:=w) (by go_grown) ((H.out.next (w':=w.drew) (by go_grown)).outTo h1 h2 fun k hk=>.inl (by rw[<-h3];exact hk)));clear h1 h2 h3 T_ z_ F_;generalize w2.setCell ⟨tb,1,none⟩ v'=w3 at *;refine hK.out _ _ trivial (fun _=>?_);clear hK;(try simp only[PU,aD])
 refine aW 10 (v:=?_) rfl hH ?_;(try simp only[PU,aD])
 refine aW 11 (v:=?_) rfl hH ?_;(try simp only[PU,aD])
 refine aW 12 (v:=?_) rfl hH ?_;(try simp only[PU,aD])
 refine aW 13 (v:=?_) rfl hH ?_;(try simp only[PU,aD])
 refine wpAnyH_done (by kernel_rfl) ?_ _;go_wp2_with fail;refine bodyPost_ret_by (results_tmp2 rfl _ _ _) rfl ?_;exact⟨rfl,_,_,HP.out⟩
theorem Y8(h:TpAt w B tb vi vo a b)(hl:b= []):Calls Tryz.prog 177 #[.pointer (some ⟨tb,0,none⟩)] w fun e w'=>e=.returned (.tuple #[.int .i64 0,.int .i64 17])∧Below w.heap.size w w':=by
 subst hl;obtain⟨A,c,rfl⟩:=aI h.out;have HC:=aA (fun W(hW:Below w.heap.size w W)(i:Int)=>y4 (i:=i) ((h.next hW).blk.cell 1));obtain⟨z_,T_,F_⟩:=h.blk.open_;clear h;go_enter Tryz.func177,Tryz.ntmps177;go_wp2_with fail;refine wp_region_held_drew (S:=fun W=>True) (by kernel_rfl) (trivial) (fun hH=>?_);change wpAnyH _ _ _ _ _ _ _ _ w.drew;refine aW 0 (v:=?_) rfl hH ?_;(try simp only[PU,aD])
 refine aW 1 (v:=?_) rfl hH ?_;(try simp only[PU,aD])
 refine aW 2 (v:=?_) rfl hH ?_;(try simp only[PU,aD])
 refine aW 3 (v:=?_) rfl hH ?_;(try simp only[PU,aD])
 refine aW 4 (v:=?_) rfl hH ?_;(try simp only[PU,aD])
 refine aW 5 (v:=?_) rfl hH ?_;(try simp only[PU,aD])
 refine cE 6 (by kernel_rfl) rfl (fun K hK=>?_);go_simp;refine hK.out _ _ trivial (fun _=>?_);clear hK;(try simp only[PU,aD])
 refine aW 7 (v:=?_) rfl hH ?_;(try simp only[PU,aD])
 refine aW 8 (v:=?_) rfl hH ?_;(try simp only[PU,aD])
 refine cE 9 (by kernel_rfl) rfl (fun K hK=>?_);go_simp;(try rw[hw])
 refine(HC.out _ (by go_grown) _).mono ?_;rintro e w' ⟨rfl,hb⟩;have HB:Hid (Below w.heap.size w w'):=aA (Below.next (by go_grown) hb);clear hb T_ z_ F_;refine hK.out _ _ trivial (fun _=>?_);clear hK;(try simp only[PU,aD])
 refine aW 10 (v:=?_) rfl hH ?_;(try simp only[PU,aD])
 refine aW 11 (v:=?_) rfl hH ?_;(try simp only[PU,aD])
 refine aW 12 (v:=?_) rfl hH ?_;(try simp only[PU,aD])
 refine aW 13 (v:=?_) rfl hH ?_;(try simp only[PU,aD])
 refine wpAnyH_done (by kernel_rfl) ?_ _;go_wp2_with fail;refine bodyPost_ret_by (results_tmp2 rfl _ _ _) rfl ?_;exact⟨rfl,HB.out⟩
end
def IB(op a b:Int):Int:=if op=40 then wrap64 (a+b)else if op=41 then wrap64 (a-b)else lD a b
theorem LJ(op x y:Int)(fY:op=40∨op=41∨op=42)(w:World):Calls Tryz.prog 160 #[.int .u8 op,.int .i64 x,.int .i64 y] w fun e w'=>e=.returned (.tuple #[.int .i64 (IB op x y),.int .i64 0])∧w=w':=by
 rcases fY with rfl|rfl|rfl
 all_goals
  go_enter Tryz.func160,Tryz.ntmps160;go_wp2_with fail;refine bodyPost_ret_by (results_tmp2 rfl _ _ _) rfl ?_;exact⟨by first|rfl|simp[IB,lD],rfl⟩
def RetS(B:Nat)(S:Sv)(w:World)(q:Rs)(e:Ending)(w':World):Prop:=match q with
 |.error x=>e=.returned (.int .i64 x)∧x≠0∧Fr S.O w w'
 |.ok σ'=>e=.returned (.int .i64 0)∧(∃S',SOn w' B S' σ'∧S.Ext S' w)∧Fr S.O w w'
theorem BP{w:World}{base:Nat}{t:TypeId}{n g cp:Nat}{xs:List Value}(h:w.ownsRow base t 1 (.slice (some ⟨g,0,none⟩) n cp) n xs)(k:Nat):w.frozen? ⟨g,k,none⟩=false:=by
 obtain⟨cur,hb,_⟩:=nZ h;exact hb.frozen k
section
variable{w:World}{B:Nat}{S:Sv}{σ:PSt}
theorem SOn.place(h:SOn w B S σ){c i:Nat}{l:List Int}(hc:σ.cells[c]?=some l)(hi:i<l.length):∃g cp,S.iv c=.slice (some ⟨g,0,none⟩) l.length cp∧g<w.heap.size∧S.ro g=.items c∧w.cell? ⟨g,i,none⟩=some (.int .i64 (l.getD i 0))∧w.frozen? ⟨g,i,none⟩=false:=by
 have bM:=h.cells c l hc;have ho:=bM.own;obtain⟨g,cp,e,_,hg,_,_,h3⟩:=d6 ho (by omega);rw[e]at ho;exact⟨g,cp,e,hg,bM.ri g (by rw[e];rfl),h3 i _ (eJ _ _ hi),BP ho i⟩
theorem qL(l:List Int)(i:Nat)(v:Int):(aC l).set i (.int .i64 v)=aC (l.set i v):=by simp[aC,List.map_set]
theorem SOn.write(h:SOn w B S σ){c i g cp:Nat}{l:List Int}(hc:σ.cells[c]?=some l)(he:S.iv c=.slice (some ⟨g,0,none⟩) l.length cp)(v:Int):∃S',SOn (w.setCell ⟨g,i,none⟩ (.int .i64 v)) B S' {σ with cells:=σ.cells.set c (l.set i v)}∧S.Ext S' w∧(S'.cb=S.cb∧S'.tb=S.tb)∧∀j,S'.iv j=S.iv j:=by
 have bM:=h.cells c l hc;have hg:S.ro g=.items c:=bM.ri g (by rw[he];rfl);have hf:Fr (fun k=>k=g) w (w.setCell ⟨g,i,none⟩ (.int .i64 v)):=(Fr.refl (fun k=>k=g) w).set (p:=⟨g,i,none⟩) rfl _;have ho:=bM.own;rw[he]at ho;have DK:=qP ho i (.int .i64 v);rw[qL]at DK;obtain⟨S',h1,h2,h3,h4,h5⟩:=h.cellTo hc (l':=l.set i v) (v':=S.iv c) (hf.mono fun k hk=>.inr (by rw[hk];exact hg)) (hf.blk bM.blk (fun e=>by have:=bM.rb;rw[e,hg]at this;cases this)) (by rw[he,List.length_set];exact DK) (fun k hk=>.inl (bM.ri k hk));exact⟨S',h1,h2,h3,fun j=>by by_cases hj:j=c;(subst hj;exact h4);exact h5 j hj⟩
theorem SOn.frW(h:SOn w B S σ){g i:Nat}{c:Nat}(hg:S.ro g=.items c)(u:Value):Fr S.O w (w.setCell ⟨g,i,none⟩ u):=(Fr.refl S.O w).set (p:=⟨g,i,none⟩) (show S.ro g≠ .none by rw[hg];simp) _
theorem vW:(Tryz.prog.info? 3).map (fun i=>(i.zero,i.size,i.bytes))=some (some (.int .i64 0),1,8):=by kernel_rfl
theorem TS{g i c2 n cp:Nat}{A:Option Addr}(hb:Blk w c2 127 #[.slice A n cp])(hn:1000<=n):Calls Tryz.prog 161 #[.int .u8 44,.pointer (some ⟨g,i,none⟩),.pointer (some ⟨c2,0,none⟩)] w fun e w'=>e=.returned (.int .i64 5)∧Below w.heap.size w w':=by
 have mS:decide (1000<=(n:Int))=true:=by simp;omega
 obtain⟨z_,T_,F_⟩:=hb.open_;clear hb;go_enter Tryz.func161,Tryz.ntmps161;go_wp2_with fail;go_ret;exact⟨rfl,by go_grown⟩
theorem Ef(h:SOn w B S σ)(hB:B<=w.heap.size){c1 c2 i g cp:Nat}{l1 l2:List Int}(rX:σ.cells[c1]?=some l1)(rY:σ.cells[c2]?=some l2)(dG:c1≠c2)(he:S.iv c1=.slice (some ⟨g,0,none⟩) l1.length cp)(hi:i<l1.length)(hn:l2.length<1000):
  Calls Tryz.prog 161 #[.int .u8 44,.pointer (some ⟨g,i,none⟩),.pointer (some ⟨S.cb c2,0,none⟩)] w fun e w'=>e=.returned (.int .i64 0)∧(∃S',SOn w' B S' {σ with cells:=(σ.cells.set c2 (l2++ [l1.getD i 0])).set c1 (l1.set i 0)}∧S.Ext S' w)∧Fr S.O w w':=by
 obtain⟨g',cp',e',gR,eH,jM,pJ⟩:=h.place rX hi;rw[he]at e';injection e' with e' _ _;injection e' with e';injection e' with e' _ _;subst e';have bM:=h.cells c2 l2 rY;have H:=aA h;have HO:=aA bM.own;have aP:=aA bM.blk;have hgb:g≠S.cb c2:=fun e=>by have:=bM.rb;rw[<-e,eH]at this;cases this
 have d9:Hid (∀k,(S.iv c2).ownBlock=some k->k≠g∧k≠S.cb c2∧B<=k):=aA fun k hk=>by
  have h1:=bM.ri k hk;refine⟨fun e=>?_,fun e=>?_,(bH bM.own hk).1⟩
  ·subst e;rw[eH]at h1;injection h1 with h1;exact dG h1
  ·subst e;rw[bM.rb]at h1;cases h1
 have hrb:=bM.rb;obtain⟨A,c,e2⟩:=aI bM.own;have mS:decide (1000<=(l2.length:Int))=false:=by simp;omega
 obtain⟨i3,li,lz,ls,lb⟩:=info_parts vW;have HI:=aA li;have HZ:=aA lz;have lI:=aA ls;have jY:=aA lb;have E7:=aA jM;have EI:=aA e2;have JX:=aA (show S.has (S.iv c2) (.items c2)from bM.ri);rw[e2]at aP HO d9 JX;obtain⟨z_,T_,F_⟩:=aP.out.open_;obtain⟨y,hy⟩:∃y,l1.getD i 0=y:=⟨_,rfl⟩;rw[hy]at jM E7⊢;obtain⟨n,hn2⟩:∃n,l2.length=n:=⟨_,rfl⟩;have HN:=aA hn2;rw[hn2]at mS hn HO aP T_ d9 JX EI;generalize hcb:S.cb c2=b at *;have oL:=aA hcb;clear h bM li lz ls lb e2 hy hn2 hcb;go_enter Tryz.func161,Tryz.ntmps161;go_upto_region 7 with fail;have f8:=z_;have hnb:¬Value.ownBlock (.slice A n c)=some b:=fun e=>(d9.out b e).2.1 rfl
 have hng:¬Value.ownBlock (.slice A n c)=some g:=fun e=>(d9.out g e).1 rfl
 have HC:Hid (w.cell? ⟨b,0,none⟩=some (.slice A n c)):=aA (aP.out.cell 0);have t8:Hid (w.frozen? ⟨b,0,none⟩=false):=aA (aP.out.frozen 0);have EM:=aA pJ;have YB:Hid (l2.length=n):=HN;clear T_ z_ F_ jM pJ;refine dN (S:=fun W=>Fr (fun k=>Value.ownBlock (.slice A n c)=some k) w W) 12 (by kernel_rfl) ((Fr.refl _ _).drew) (fun hH=>?_);refine dK ?_;intro wa bP;have hX:Fr (fun k=>Value.ownBlock (.slice A n c)=some k) w wa:=by rw[bP];exact(Fr.refl _ _).drew
 have rA:=HO.out;replace rA:wa.ownsRow B 3 1 (.slice A n c) n (aC l2):=by rw[bP];exact mY rA
 replace hH:=hX;clear bP;refine aV (i:=0) (v:=?_) rfl (by kernel_rfl) (by kernel_rfl) (by kernel_rfl) (by kernel_rfl) (fun _ _ _ h=>h) (Or.inl ⟨by rfl,?hy⟩) hH ?_
 case hy=>(intro bW aN;clear aN;go_simp;try with_reducible rfl)
 (try simp only[PU,aD])
 refine aV (i:=1) (v:=?_) rfl (by kernel_rfl) (by kernel_rfl) (by kernel_rfl) (by kernel_rfl) (fun _ _ _ h=>h) (Or.inl ⟨by rfl,?hy⟩) hH ?_
 case hy=>(intro bW aN;clear aN;go_simp;try with_reducible rfl)
 (try simp only[PU,aD])
 refine aV (i:=2) (v:=?_) rfl (by kernel_rfl) (by kernel_rfl) (by kernel_rfl) (by kernel_rfl) (fun _ _ _ h=>h) (Or.inl ⟨by rfl,?hy⟩) hH ?_
 case hy=>(intro bW aN;clear aN;go_simp;try with_reducible rfl)
 (try simp only[PU,aD])
 refine aV (i:=3) (v:=?_) rfl (by kernel_rfl) (by kernel_rfl) (by kernel_rfl) (by kernel_rfl) (fun _ _ _ h=>h) (Or.inl ⟨by rfl,?hy⟩) hH ?_
 case hy=>(intro bW aN;clear aN;go_simp;try with_reducible rfl)
 (try simp only[PU,aD])
 refine aV (i:=4) (v:=?_) rfl (by kernel_rfl) (by kernel_rfl) (by kernel_rfl) (by kernel_rfl) (fun _ _ _ h=>h) (Or.inl ⟨by rfl,?hy⟩) hH ?_
 case hy=>(intro bW aN;have t:=(aN.cell f8 hnb 0).trans HC.out;clear aN;go_simp;try with_reducible rfl)
 (try simp only[PU,aD])
 refine aV (i:=5) (v:=?_) rfl (by kernel_rfl) (by kernel_rfl) (by kernel_rfl) (by kernel_rfl) (fun _ _ _ h=>h) (Or.inl ⟨by rfl,?hy⟩) hH ?_
 case hy=>(intro bW aN;clear aN;go_simp;try with_reducible rfl)
 (try simp only[PU,aD])
 refine aV (i:=6) (v:=?_) rfl (by kernel_rfl) (by kernel_rfl) (by kernel_rfl) (by kernel_rfl) (fun _ _ _ h=>h) (Or.inl ⟨by rfl,?hy⟩) hH ?_
 case hy=>(intro bW aN;clear aN;go_simp;try with_reducible rfl)
 (try simp only[PU,aD])
 refine aV (i:=7) (v:=?_) rfl (by kernel_rfl) (by kernel_rfl) (by kernel_rfl) (by kernel_rfl) (fun _ _ _ h=>h) (Or.inl ⟨by rfl,?hy⟩) hH ?_
 case hy=>(intro bW aN;have t:=(aN.cell gR hng i).trans E7.out;clear aN;go_simp;try with_reducible rfl)
 (try simp only[PU,aD])
 refine bQ (i:=8) rfl (by kernel_rfl) (fun K hK=>?_);go_simp;replace hH:=hX.alloc (.cells #[.int .i64 y] 3);refine hK.out _ _ hH (fun _=>?_);clear hK;(try simp only[PU,aD])
 refine dK ?_;intro wb bS;have aR:Below wa.heap.size wa wb:=by rw[bS];exact(aM _ _).alloc (aH _) _
 have pX:Blk wb wa.heap.size 3 #[.int .i64 y]:=by rw[bS];exact Blk.new _ _ _
 replace rA:=aZ rA aR (aH _);replace hX:=hX.next aR;replace hH:=hX;clear bS aR;refine bQ (i:=9) rfl (by kernel_rfl) (fun K hK=>?_);rw[if_pos (by rfl)];refine oE (.tmp 47) (.tmp 51) 30 rfl B 3 i3 _ 1 8 Tryz.underlying30 HI.out HZ.out lI.out jY.out rfl (by decide) (.slice A n c) n (aC l2) (by simp[Act.eval]) rA (by simp[Act.eval]) (oB pX) (by intro u hu;simp at hu;rcases hu with rfl;rfl) (by unfold maxLen;omega) (by omega) (by have:=hX.size;omega) ?_;intro v_2 wc bB eH nS;have VP:=hX.size;replace hX:Fr (fun k=>Value.ownBlock (.slice A n c)=some k) w wc:=hX.trans (Fr.ofGrownN eH);replace hH:=hX;obtain⟨iS,iT,rfl⟩:=aI bB;have tY:Hid (∀k,Value.ownBlock (.slice iS (n+1) iT)=some k->Value.ownBlock (.slice A n c)=some k∨w.heap.size<=k):=aA (fun k hk=>nS.imp (fun e=>by rw[<-e];exact hk) (fun e=>by rw[hk]at e;have e:=Option.some.inj e;omega));clear eH nS VP;refine hK.out _ _ hH (fun _=>?_);clear hK;(try simp only[PU,aD])
 refine bQ (i:=10) rfl (by kernel_rfl) (fun K hK=>?_);go_simp;refine hK.out _ _ hH (fun _=>?_);clear hK;(try simp only[PU,aD])
 refine aV (i:=11) (v:=?_) rfl (by kernel_rfl) (by kernel_rfl) (by kernel_rfl) (by kernel_rfl) (fun _ _ _ h=>h) (Or.inl ⟨by rfl,?hy⟩) hH ?_
 case hy=>(intro bW aN;clear aN;go_simp;try with_reducible rfl)
 (try simp only[PU,aD])
 refine fK (l:=12) rfl (by kernel_rfl) (by kernel_rfl) (fun K hK=>?_);have IG:=(World.frozen?_of_block (a:=⟨b,0,none⟩) (hX.block _ f8 hnb)).trans t8.out;have C_f:=(hX.cell f8 hnb _).trans HC.out;go_simp;refine hK.out _ _ ?_;clear hK;(try simp only[PU,aD])
 have Cm:=aA bB;have F7:=aA hX;clear bB hX hH rA;generalize Jm:wc.setCell ⟨b,0,none⟩ (.slice iS (n+1) iT)=we at *;have X2:=aA Jm;have Ul:Fr (fun k=>k=b∨Value.ownBlock (.slice A n c)=some k) w we:=by rw[<-Jm];exact(F7.out.mono fun k hk=>.inr hk).set (p:=⟨b,0,none⟩) (.inl rfl) _
 have IP:=aA Ul;have d0:=(Ul.cell (b:=g) gR (fun e=>by rcases e with e|e;exact hgb e;exact hng e) i).trans E7.out;have g0:we.frozen? ⟨g,i,none⟩=false:=(World.frozen?_of_block (a:=⟨g,i,none⟩) (Ul.block g gR (fun e=>by rcases e with e|e;exact hgb e;exact hng e))).trans EM.out;clear Jm Ul;go_wp2_with fail;go_ret;have h2:∃S',SOn we B S' {σ with cells:=σ.cells.set c2 (l2++ [y])}∧S.Ext S' w∧(S'.cb=S.cb∧S'.tb=S.tb)∧S'.iv c2=.slice iS (n+1) iT∧∀j,j≠c2->S'.iv j=S.iv j:=by
  refine H.out.cellTo rY (IP.out.mono fun k hk=>?_) ?_ ?_ fun k hk=>?_
  ·rcases hk with hk|hk
   ·rw[hk];exact .inl hrb
   ·exact .inr (JX.out k hk)
  ·rw[oL.out,<-X2.out]
   simpa using(F7.out.blk aP.out hnb).set_ 0 (.slice iS (n+1) iT)
  ·rw[<-X2.out,List.length_append,HN.out]
   have ho:=bL (O:=fun k=>k=b) Cm.out (w':=wc.setCell ⟨b,0,none⟩ (.slice iS (n+1) iT)) ((Fr.refl (fun k=>k=b) wc).set (p:=⟨b,0,none⟩) rfl _) (fun k hk e=>by subst e;rcases tY.out _ hk with h1|h1;exact hnb h1;omega);rw[show aC (l2++ [y])=aC l2++ [.int .i64 y] by simp[aC]];exact ho
  ·exact(tY.out k hk).imp (fun e=>JX.out k e) id
 obtain⟨S',q1,q2,q3,q4,q5⟩:=h2;have Z7:({σ with cells:=σ.cells.set c2 (l2++ [y])}:PSt).cells[c1]?=some l1:=by
  show(σ.cells.set c2 (l2++ [y]))[c1]?=some l1;rw[List.getElem?_set_ne (fun e=>dG e.symm)];exact rX
 obtain⟨S'',r1,r2,_⟩:=q1.write Z7 (i:=i) (by rw[q5 c1 dG];exact he) 0;have hFw:Fr S.O w we:=IP.out.mono fun k hk=>by
  show S.ro k≠ .none;rcases hk with hk|hk
  ·rw[hk,hrb];simp
  ·rw[JX.out k hk];simp
 refine⟨rfl,⟨S'',r1,q2.trans r2 IP.out.size⟩,hFw.set (p:=⟨g,i,none⟩) (show S.ro g≠ .none by rw[eH];simp) _⟩
theorem Ee{g i c2 cp:Nat}{A:Option Addr}(hb:Blk w c2 127 #[.slice A 0 cp]):Calls Tryz.prog 161 #[.int .u8 45,.pointer (some ⟨g,i,none⟩),.pointer (some ⟨c2,0,none⟩)] w fun e w'=>e=.returned (.int .i64 13)∧Below w.heap.size w w':=by
 obtain⟨z_,T_,F_⟩:=hb.open_;clear hb;go_enter Tryz.func161,Tryz.ntmps161;go_wp2_with fail;go_ret;exact⟨rfl,by go_grown⟩
theorem Ed{g i c2 n cp:Nat}{A:Option Addr}{y:Int}(hb:Blk w c2 127 #[.slice A n cp])(hn:0<n)(hc:w.cell? ⟨g,i,none⟩=some (.int .i64 y))(hy:y≠0):Calls Tryz.prog 161 #[.int .u8 45,.pointer (some ⟨g,i,none⟩),.pointer (some ⟨c2,0,none⟩)] w fun e w'=>e=.returned (.int .i64 14)∧Below w.heap.size w w':=by
 obtain⟨z_,T_,F_⟩:=hb.open_;have h1:((n:Int)==0)=false:=bqN.2 (by omega);have h2:(y !=0)=true:=bne_iff_ne.2 hy;clear hb;go_enter Tryz.func161,Tryz.ntmps161;go_wp2_with fail;go_ret;exact⟨rfl,by go_grown⟩
theorem Ny(h:SOn w B S σ)(hB:B<=w.heap.size){c1 c2 i g cp:Nat}{l1 l2:List Int}(rX:σ.cells[c1]?=some l1)(rY:σ.cells[c2]?=some l2)(dG:c1≠c2)(he:S.iv c1=.slice (some ⟨g,0,none⟩) l1.length cp)(hi:i<l1.length)(hn:0<l2.length)(hn2:l2.length<=1000)(hy:l1.getD i 0=0):
  Calls Tryz.prog 161 #[.int .u8 45,.pointer (some ⟨g,i,none⟩),.pointer (some ⟨S.cb c2,0,none⟩)] w fun e w'=>e=.returned (.int .i64 0)∧(∃S',SOn w' B S' {σ with cells:=(σ.cells.set c1 (l1.set i (l2.getLastD 0))).set c2 l2.dropLast}∧S.Ext S' w)∧Fr S.O w w':=by
 obtain⟨g',cp',e',gR,eH,jM,pJ⟩:=h.place rX hi;rw[he]at e';injection e' with e' _ _;injection e' with e';injection e' with e' _ _;subst e';have bM:=h.cells c2 l2 rY;have H:=aA h;have aP:=aA bM.blk;have hgb:g≠S.cb c2:=fun e=>by have:=bM.rb;rw[<-e,eH]at this;cases this
 have hrb:=bM.rb;obtain⟨g2,c,e2,_,QW,_,_,mR⟩:=d6 bM.own hn;have HO:=aA bM.own;have vU:S.ro g2=.items c2:=bM.ri g2 (by rw[e2];rfl);have aA3:g2≠g:=fun e=>by rw[e,eH]at vU;injection vU with h1;exact dG h1
 have d2:=mR (l2.length-1) _ (eJ _ _ (by omega));have Uw:l2.getD (l2.length-1) 0=l2.getLastD 0:=by rw[List.getLastD_eq_getLast?,List.getLast?_eq_getElem?,eX]
 rw[Uw]at d2;rw[hy]at jM;have EI:=aA e2;rw[e2]at aP HO;obtain⟨z_,T_,F_⟩:=aP.out.open_;obtain⟨y,hyy⟩:∃y,l2.getLastD 0=y:=⟨_,rfl⟩;rw[hyy]at d2⊢;obtain⟨n,hnn⟩:∃n,l2.length=n+1:=⟨l2.length-1,by omega⟩;have HN:=aA hnn;rw[hnn]at d2 aP T_ EI hn2 HO;rw[Nat.add_sub_cancel]at d2;have f9:n+1<=c:=(qO HO.out).choose_spec.2.2.2.1;have j0:(0:Int)<=(n:Int):=by omega
 have j1:(n:Int)<((n+1:Nat):Int):=by omega
 have j2:(n:Int)<=(c:Int):=by omega
 have hz:(((n+1:Nat):Int)==0)=false:=bqN.2 (by omega);have hw:IntKind.i64.wrap (n:Int)=(n:Int):=wrap_small _ (by omega) (by omega);generalize hcb:S.cb c2=b at *;have oL:=aA hcb;clear h bM e2 Uw hyy hnn hcb hn mR;go_enter Tryz.func161,Tryz.ntmps161;go_wp2_with fail;go_ret;obtain⟨S',q1,q2,q3,q4⟩:=H.out.write (i:=i) rX he y;have Z7:({σ with cells:=σ.cells.set c1 (l1.set i y)}:PSt).cells[c2]?=some l2:=by
  show(σ.cells.set c1 (l1.set i y))[c2]?=some l2;rw[List.getElem?_set_ne dG];exact rY
 have rU:Fr S.O w (w.setCell ⟨g,i,none⟩ (.int .i64 y)):=H.out.frW eH _;have Ha:∀k,k<w.heap.size->S'.ro k=S.ro k:=q2.2;generalize aF:w.setCell ⟨g,i,none⟩ (.int .i64 y)=w1 at *;have NJ:=q1.cells c2 l2 Z7;have aG:=NJ.blk;rw[q4 c2,q3.1,oL.out,EI.out]at aG;have hF2:Fr (fun k=>k=b) w1 (w1.setCell ⟨b,0,none⟩ (.slice (some ⟨g2,0,none⟩) n c)):=(Fr.refl (fun k=>k=b) w1).set (p:=⟨b,0,none⟩) rfl _;have aAr:g2≠b:=fun e=>by rw[e,hrb]at vU;cases vU
 have ho1:=NJ.own;rw[q4 c2,EI.out,HN.out]at ho1;have DK:=nY (bL ho1 hF2 fun k hk e=>by injection hk with hk;exact aAr (hk.trans e)) (Nat.le_succ n);have Py:l2.dropLast.length=n:=by simp[HN.out]
 have QX:(aC l2).take (n*1)=aC l2.dropLast:=by rw[Nat.mul_one,List.dropLast_eq_take,HN.out,Nat.add_sub_cancel];simp[aC,List.map_take]
 rw[QX]at DK;obtain⟨S'',r1,r2,_⟩:=q1.cellTo (w':=w1.setCell ⟨b,0,none⟩ (.slice (some ⟨g2,0,none⟩) n c)) (v':=.slice (some ⟨g2,0,none⟩) n c) (l':=l2.dropLast) Z7 (hF2.mono fun k hk=>.inl (by rw[hk,Ha b z_];exact hrb)) (by rw[q3.1,oL.out];simpa using aG.set_ 0 (.slice (some ⟨g2,0,none⟩) n c)) (by rw[Py];exact DK) (fun k hk=>.inl (by injection hk with hk;rw[<-hk,Ha g2 QW];exact vU));refine⟨rfl,⟨S'',r1,q2.trans r2 rU.size⟩,rU.set (p:=⟨b,0,none⟩) (show S.ro b≠ .none by rw[hrb];simp) _⟩
end
end Go.Proofs.YtakfdnnlhjhcfaaGreatDoor
