/- Part of the proof. -/
import Derived.Lib.ConvBytes
import Derived.Test.YtakfdnnlhjhcfaaGreatDoorA24
set_option linter.unusedVariables false
set_option linter.unusedSimpArgs false
set_option maxRecDepth 100000
set_option maxHeartbeats 4000000
namespace Bk
open Go Go.RowKit
structure PA(w:World)(b g n i c:Nat)(m:Value)(tk:List (Int×ByteArray×Int))(E:Int):Prop where
 blk:Blk w b 102 #[.slice (some ⟨g,0,none⟩) n c,.int .i64 i,.int .i64 E,m,.int .i64 0,.int .i64 0]
 tok:∀j t,tk[j]?=some t->w.cell? ⟨g,j*3,none⟩=some (.int .u8 t.1)∧w.cell? ⟨g,j*3+1,none⟩=some (.string t.2.1)∧w.cell? ⟨g,j*3+2,none⟩=some (.int .i64 t.2.2)
 len:tk.length=n
 ne:g≠b∧g<w.heap.size∧n<=c∧n<=1000
theorem PA.next{w:World}{b g n i c:Nat}{m:Value}{tk:List (Int×ByteArray×Int)}{E:Int}{w':World}(h:PA w b g n i c m tk E)(hb:Below w.heap.size w w'):PA w' b g n i c m tk E:=
 ⟨h.blk.next hb,fun j t hj=>by
  have hg:=h.ne.2.1;obtain⟨h1,h2,h3⟩:=h.tok j t hj;exact⟨(hb.cell (p:=⟨g,j*3,none⟩) hg).trans h1,(hb.cell (p:=⟨g,j*3+1,none⟩) hg).trans h2,(hb.cell (p:=⟨g,j*3+2,none⟩) hg).trans h3⟩,h.len,h.ne.1,dX h.ne.2.1 hb.size,h.ne.2.2⟩
theorem PA.step{w:World}{b g n i c:Nat}{m:Value}{tk:List (Int×ByteArray×Int)}{E:Int}{w':World}{k:Nat}(h:PA w b g n i c m tk E)(hf:Fr (· =b) w w')(hk:Blk w' b 102 #[.slice (some ⟨g,0,none⟩) n c,.int .i64 k,.int .i64 E,m,.int .i64 0,.int .i64 0]):PA w' b g n k c m tk E:=
 ⟨hk,fun j t hj=>by
  obtain⟨h1,h2,h3⟩:=h.tok j t hj;exact⟨(hf.cell h.ne.2.1 h.ne.1 _).trans h1,(hf.cell h.ne.2.1 h.ne.1 _).trans h2,(hf.cell h.ne.2.1 h.ne.1 _).trans h3⟩,h.len,h.ne.1,dX h.ne.2.1 hf.size,h.ne.2.2⟩
end Bk
namespace Go.Proofs.YtakfdnnlhjhcfaaGreatDoor
open Go.RowKit Bk
theorem BE:(Tryz.prog.info? 142).map (·.size)=some 3:=by kernel_rfl
theorem vH(k p:Int)(s:ByteArray)(w:World):(Instr.field 142 (.agg #[.int .u8 k,.string s,.int .i64 p]) 0).run Tryz.prog w=.ok (.int .u8 k) w:=by kernel_rfl
theorem fD(k p:Int)(s:ByteArray)(w:World):(Instr.field 142 (.agg #[.int .u8 k,.string s,.int .i64 p]) 1).run Tryz.prog w=.ok (.string s) w:=by kernel_rfl
theorem Z5(k p:Int)(s:ByteArray)(w:World):(Instr.field 142 (.agg #[.int .u8 k,.string s,.int .i64 p]) 2).run Tryz.prog w=.ok (.int .i64 p) w:=by kernel_rfl
theorem iH{w:World}{b g n i c:Nat}{m:Value}{tk:List (Int×ByteArray×Int)}{E:Int}(h:PA w b g n i c m tk E)(t:Int×ByteArray×Int)(ht:tk[i]?=some t):
  Calls Tryz.prog 77 #[.pointer (some ⟨b,0,none⟩)] w fun e w'=>e=.returned (.agg #[.int .u8 t.1,.string t.2.1,.int .i64 t.2.2])∧Below w.heap.size w w':=by
 have H:=aA h;have hi:i<n:=by have:=h.len;have:=(lgS.1 ht).1;omega
 obtain⟨t0,t1,t2⟩:=h.tok i t ht;have Zi:=aA t0;have Ua:=aA t1;have Iq:=aA t2;have Ut:=h.ne.2.1;have IY:=h.blk.lt;have dG:=h.ne.1;have xG:((i:Int)==(n:Int))=false:=by simp;omega
 have i0:(0:Int)<=(i:Int):=by omega
 have i1:(i:Int)<(n:Int):=by omega
 obtain⟨k,s,p⟩:=t;dsimp only at *;clear h ht t0 t1 t2;go_enter Tryz.func77,Tryz.ntmps77;go_upto_region 1 with fail;refine aB ?_;intro w1 aF;have aG:Below w.heap.size w w1:=by rw[aF];go_grown
 have K1:Blk w1 w.heap.size 142 #[.int .u8 0,.string ⟨#[]⟩,.int .i64 0]:=by rw[aF];exact aQ
 have a9:=aA K1;have aO:=aA aG;have H1:=aA (H.out.next aG);obtain⟨T7,I0,G5⟩:=H1.out.blk.open_;clear aF aG K1;go_quiet (fail);go_upto_region 3 with fail;refine aB ?_;intro w2 eD;have hb2:Below w1.heap.size w1 w2:=by rw[eD];exact Bk.drewN_ (aM _ _) _
 have aP:=aA (aO.out.next hb2);have H2:=aA (H1.out.next hb2);have bI:=aA (a9.out.next hb2);clear eD hb2 T7 I0 G5;obtain⟨T7,I0,G5⟩:=H2.out.blk.open_;obtain⟨G2,xT,E0⟩:=bI.out.open_;have hs2:=aP.out.size;have d0:=(aP.out.cell (p:=⟨g,i*3,none⟩) Ut).trans Zi.out;have d1:=(aP.out.cell (p:=⟨g,i*3+1,none⟩) Ut).trans Ua.out;have d2:=(aP.out.cell (p:=⟨g,i*3+2,none⟩) Ut).trans Iq.out;go_region;go_wp2_with fail;have K9:=((bI.out.set_ 0 (.int .u8 k)).set_ 1 (.string s)).set_ 2 (.int .i64 p);refine bodyPost_ret_by (results_cell_row rfl _ _ w.heap.size 142 #[.int .u8 k,.string s,.int .i64 p] _ _ rfl (show Blk _ w.heap.size 142 #[.int .u8 k,.string s,.int .i64 p]from Blk.drew (by simpa using K9)) Tryz.underlying142 rfl (by rw[BE];rfl)) rfl ?_;exact⟨rfl,Below.drew (((aP.out.setCell (aH _) _).setCell (aH _) _).setCell (aH _) _)⟩
theorem LX{w:World}{b g n i c:Nat}{m:Value}{tk:List (Int×ByteArray×Int)}{E:Int}(h:PA w b g n i c m tk E)(t:Int×ByteArray×Int)(ht:tk[i]?=some t):
  Calls Tryz.prog 112 #[.pointer (some ⟨b,0,none⟩),.string t.2.1] w fun e w'=>e=.returned (.bool true)∧PA w' b g n (i+1) c m tk E∧Fr (· =b) w w':=by
 have H:=aA h;have hi:i<n:=by have:=h.len;have:=(lgS.1 ht).1;omega
 have hn:=h.ne.2.2.2;have G9:=aA (iH h t ht);obtain⟨k,s,p⟩:=t;dsimp only at *;clear h ht;have ft1:=fD;go_enter Tryz.func112,Tryz.ntmps112;go_wp2_with fail;refine G9.out.mono ?_;rintro en w1 ⟨rfl,aG⟩;have H1:=aA (H.out.next aG);have iL:=aA (Fr.of (O:=(· =b)) aG);obtain⟨T7,I0,G5⟩:=H1.out.blk.open_;clear aG G9;go_wp2_with fail;go_ret;refine⟨rfl,H1.out.step (Fr.set (Fr.refl (· =b) _) rfl _) ?_,Fr.set iL.out rfl _⟩;have K:=H1.out.blk.set_ 1 (.int .i64 ((i+1:Nat):Int));simpa using K
theorem El{w:World}{b g n i c:Nat}{m:Value}{tk:List (Int×ByteArray×Int)}{E:Int}(h:PA w b g n i c m tk E)(t:Int×ByteArray×Int)(ht:tk[i]?=some t)(s:ByteArray)(hs:(t.2.1.toList==s.toList)=false):
  Calls Tryz.prog 112 #[.pointer (some ⟨b,0,none⟩),.string s] w fun e w'=>e=.returned (.bool false)∧Below w.heap.size w w':=by
 have G9:=aA (iH h t ht);obtain⟨k,s1,p⟩:=t;dsimp only at *;clear h ht;have ft1:=fD;go_enter Tryz.func112,Tryz.ntmps112;go_wp2_with fail;refine G9.out.mono ?_;rintro en w1 ⟨rfl,aG⟩;have aO:=aA aG;clear aG G9;go_wp2_with fail;go_ret;exact⟨rfl,aO.out⟩
theorem Oc{w:World}{b g n i c:Nat}{m:Value}{tk:List (Int×ByteArray×Int)}{E:Int}(h:PA w b g n i c m tk E)(t:Int×ByteArray×Int)(ht:tk[i]?=some t):
  Calls Tryz.prog 80 #[.pointer (some ⟨b,0,none⟩),.string t.2.1] w fun e w'=>e=.returned (.tuple #[])∧PA w' b g n (i+1) c m tk E∧Fr (· =b) w w':=by
 have HA:=aA (LX h t ht);obtain⟨k,s,p⟩:=t;dsimp only at *;clear h ht;go_enter Tryz.func80,Tryz.ntmps80;go_wp2_with fail;refine HA.out.mono ?_;rintro en w1 ⟨rfl,h1,U6⟩;have H1:=aA h1;have iL:=aA U6;clear h1 U6 HA;go_wp2_with fail;refine bodyPost_end (results_none rfl _ _ _) rfl ?_;exact⟨rfl,H1.out,iL.out⟩
theorem VC{w:World}{b g n i c:Nat}{m:Value}{tk:List (Int×ByteArray×Int)}{E:Int}(h:PA w b g n i c m tk E)(t:Int×ByteArray×Int)(ht:tk[i]?=some t)(hn:aS t.2.1=true):
  Calls Tryz.prog 113 #[.pointer (some ⟨b,0,none⟩)] w fun e w'=>e=.returned (.string t.2.1)∧PA w' b g n (i+1) c m tk E∧Fr (· =b) w w':=by
 have H:=aA h;have hi:i<n:=by have:=h.len;have:=(lgS.1 ht).1;omega
 have NX:=h.ne.2.2.2;have G9:=aA (iH h t ht);obtain⟨k,s,p⟩:=t;dsimp only at *;have mB:Hid (∀W,Calls Tryz.prog 27 #[.string s] W fun e w'=>e=.returned (.bool true)∧Below W.heap.size W w'):=aA fun W=>by rw[<-hn];exact zY s W
 clear h ht hn;go_enter Tryz.func113,Tryz.ntmps113;go_wp2_with fail;refine G9.out.mono ?_;rintro en w1 ⟨rfl,aG⟩;have aO:=aA aG;have H1:=aA (H.out.next aG);clear aG G9;go_upto_region 2 with fail;refine aB ?_;intro w2 eD;have hb2:Below w1.heap.size w1 w2:=by rw[eD];go_grown
 have K2:Blk w2 w1.heap.size 142 #[.int .u8 k,.string s,.int .i64 p]:=by rw[eD];exact aQ
 have bI:=aA K2;have aP:=aA (aO.out.next hb2);have H2:=aA (H1.out.next hb2);obtain⟨G2,xT,E0⟩:=K2.open_;clear eD hb2 K2;go_wp2_with fail;refine(mB.out w2).mono ?_;rintro en w3 ⟨rfl,aT⟩;have bD:=aA (aP.out.next aT);have H3:=aA (H2.out.next aT);have dD:=aA (bI.out.next aT);have dG:w1.heap.size≠b:=by have:=H1.out.blk.lt;omega
 clear aT G2 xT E0;obtain⟨G2,xT,E0⟩:=dD.out.open_;obtain⟨T7,I0,G5⟩:=H3.out.blk.open_;go_wp2_with fail;go_ret;refine⟨rfl,H3.out.step (Fr.set (Fr.refl (· =b) _) rfl _) ?_,Fr.set (Fr.of (O:=(· =b)) bD.out) rfl _⟩;have K:=H3.out.blk.set_ 1 (.int .i64 ((i+1:Nat):Int));simpa using K
end Go.Proofs.YtakfdnnlhjhcfaaGreatDoor
namespace Bk
open Go Go.RowKit Go.MapKept
def BV:List (Int×ByteArray×Int):= [(1,⟨#[105,110,116]⟩,0),(1,⟨#[120]⟩,4),(1,⟨#[109,97,105,110]⟩,6),(3,⟨#[123]⟩,11),(1,⟨#[120]⟩,13),(3,⟨#[43,61]⟩,15),(2,⟨#[51]⟩,18),(3,⟨#[59]⟩,19),(3,⟨#[125]⟩,21)]
def MapB(w:World)(r:Nat):Prop:=∃es clock,w.heap[r]?=some (.map es clock)∧∀x∈es.toList,∃s,x.key=.string s∧s≠⟨#[59]⟩
structure PT(w:World)(b g c r i:Nat):Prop where
 pa:PA w b g 9 i c (.map (some r)) BV 23
 mp:MapB w r
 ne:r≠b∧r<w.heap.size
theorem MapB.keep{w w':World}{r:Nat}(h:MapB w r)(e:w'.heap[r]?=w.heap[r]?):MapB w' r:=by
 obtain⟨es,cl,h1,h2⟩:=h;exact⟨es,cl,e.trans h1,h2⟩
theorem PT.next{w w':World}{b g c r i:Nat}(h:PT w b g c r i)(hb:Below w.heap.size w w'):PT w' b g c r i:=
 ⟨h.pa.next hb,h.mp.keep (hb.block r h.ne.2),h.ne.1,dX h.ne.2 hb.size⟩
theorem PT.fr{w w':World}{b g c r i k:Nat}(h:PT w b g c r i)(hf:Fr (· =b) w w')(hp:PA w' b g 9 k c (.map (some r)) BV 23):PT w' b g c r k:=
 ⟨hp,h.mp.keep (hf.block r h.ne.2 h.ne.1),h.ne.1,dX h.ne.2 hf.size⟩
theorem MapB.look{P:Program}{mty kt et:TypeId}{z:Value}{w:World}{r:Nat}(hm:P.underlying mty=some (.map kt et))(hd:P.underlying kt=some .string)(hz:(zeroValue et).run P w=.ok z w)(h:MapB w r):
  (Instr.lookup mty (.map (some r)) (.string ⟨#[59]⟩) true).run P w=.ok (.tuple #[z,.bool false]) w:=by
 obtain⟨es,clock,hb,hx⟩:=h;have Gq:∀x∈es.toList,IsKey .string x.key:=fun x hm=>by obtain⟨s',e,_⟩:=hx x hm;rw[e];trivial
 have yQ:IsKey .string (.string ⟨#[59]⟩):=trivial;rcases findNow_spec yQ es.toList 0 Gq with⟨h1,h2⟩|⟨j,e,h1,h2,h3⟩
 ·simp[Instr.lookup,run_underlying hm,run_getObj_map hb,run_checkKey hd yQ,run_findKey hd h1,hz,Result.andThen]
 ·obtain⟨s',e1,e2⟩:=hx e (List.mem_of_getElem? h2)
  rw[e1]at h3;injection h3 with h3;exact absurd h3 e2
theorem PT.other{w w':World}{b g c r i:Nat}{O:Nat->Prop}(h:PT w b g c r i)(hf:Fr O w w')(h1:¬O b)(h2:¬O g)(h3:¬O r):PT w' b g c r i:=
 ⟨⟨hf.blk h.pa.blk h1,fun j t hj=>by
  obtain⟨q1,q2,q3⟩:=h.pa.tok j t hj;exact⟨(hf.cell h.pa.ne.2.1 h2 _).trans q1,(hf.cell h.pa.ne.2.1 h2 _).trans q2,(hf.cell h.pa.ne.2.1 h2 _).trans q3⟩,h.pa.len,h.pa.ne.1,dX h.pa.ne.2.1 hf.size,h.pa.ne.2.2⟩,h.mp.keep (hf.block r h.ne.2 h3),h.ne.1,dX h.ne.2 hf.size⟩
theorem eW{O:Nat->Prop}{w w':World}{a:Addr}(h:Fr O w w')(ha:w.heap.size<=a.block)(v:Value):Fr O w (w'.setCell a v):=by
 have h1:Fr (· =a.block) w' (w'.setCell a v):=Fr.set (Fr.refl (· =a.block) _) rfl _;exact⟨h1.os.trans h.os,h1.tape.trans h.tape,h1.output.trans h.output,fC h.size h1.size,fun k hk hO=>(h1.block k (dX hk h.size) (by omega)).trans (h.block k hk hO)⟩
theorem PT.fin{w w':World}{b g c r i i0 k:Nat}(h0:PT w b g c r i0)(h:PT w' b g c r i)(hf:Fr (· =b) w w')(hk:w.heap.size<=k)(v0 v1 v2 v3:Value):
  PT ((((w'.setCell ⟨k,0,none⟩ v0).setCell ⟨k,1,none⟩ v1).setCell ⟨k,2,none⟩ v2).setCell ⟨k,3,none⟩ v3) b g c r i∧Fr (· =b) w ((((w'.setCell ⟨k,0,none⟩ v0).setCell ⟨k,1,none⟩ v1).setCell ⟨k,2,none⟩ v2).setCell ⟨k,3,none⟩ v3):=by
 have hb:=h0.pa.blk.lt;have hg:=h0.pa.ne.2.1;have hr:=h0.ne.2;exact⟨h.other (O:=(· =k)) (Fr.set (Fr.set (Fr.set (Fr.set (Fr.refl (· =k) _) rfl _) rfl _) rfl _) rfl _) (by omega) (by omega) (by omega),eW (eW (eW (eW hf hk _) hk _) hk _) hk _⟩
end Bk
namespace Go.Proofs.YtakfdnnlhjhcfaaGreatDoor
open Go.RowKit Bk
theorem M1{w:World}{b g c r i:Nat}(h:PT w b g c r i)(p:Int)(ht:BV[i]?=some (1,⟨#[120]⟩,p)):
  Calls Tryz.prog 113 #[.pointer (some ⟨b,0,none⟩)] w fun e w'=>e=.returned (.string ⟨#[120]⟩)∧PT w' b g c r (i+1)∧Fr (· =b) w w':=
 (VC h.pa _ ht (by show aS ⟨#[120]⟩=true;decide+kernel)).mono fun e w'⟨h1,h2,h3⟩=>⟨h1,h.fr h3 h2,h3⟩
theorem tM{w:World}{b g c r i:Nat}(h:PT w b g c r i)(t:Int×ByteArray×Int)(ht:BV[i]?=some t)(s:ByteArray)(hs:(t.2.1.toList==s.toList)=false):
 Calls Tryz.prog 112 #[.pointer (some ⟨b,0,none⟩),.string s] w fun e w'=>e=.returned (.bool false)∧Below w.heap.size w w':=El h.pa t ht s hs
theorem fH:(Tryz.prog.info? 26).map (·.size)=some 4:=by kernel_rfl
theorem VB{w:World}{b g c r i:Nat}(h:PT w b g c r i)(p:Int)(ht:BV[i]?=some (1,⟨#[120]⟩,p))(t:Int×ByteArray×Int)(VX:BV[i+1]?=some t)(hs:(t.2.1.toList==(⟨#[91]⟩:ByteArray).toList)=false):
  Calls Tryz.prog 185 #[.pointer (some ⟨b,0,none⟩)] w fun e w'=>e=.returned (.agg #[.int .u8 2,.int .i64 0,.string ⟨#[120]⟩,.slice none 0 0])∧PT w' b g c r (i+1)∧Fr (· =b) w w':=by
 have H:=aA h;have IY:=h.pa.blk.lt;clear h;go_enter Tryz.func185,Tryz.ntmps185;go_upto_region 1 with fail;refine aB ?_;intro w1 aF;have aG:Below w.heap.size w w1:=by rw[aF];go_grown
 have K1:Blk w1 w.heap.size 26 #[.int .u8 0,.int .i64 0,.string ⟨#[]⟩,.slice none 0 0]:=by rw[aF];exact aQ
 have a9:=aA K1;have iL:=aA (Fr.of (O:=(· =b)) aG);have H1:=aA (H.out.next aG);clear aF aG K1;go_wp2_with fail;refine(M1 H1.out p ht).mono ?_;rintro en w2 ⟨rfl,h2,iJ⟩;have H2:=aA h2;have lG:=aA (iL.out.trans iJ);have bI:=aA (iJ.blk a9.out (by omega));clear h2 iJ;go_wp2_with fail;refine(tM H2.out t VX _ hs).mono ?_;rintro en w3 ⟨rfl,aT⟩;have H3:=aA (H2.out.next aT);have jK:=aA (lG.out.trans (Fr.of aT));have dD:=aA (bI.out.next aT);clear aT;obtain⟨G2,xT,E0⟩:=dD.out.open_;go_wp2_with fail;have K9:=(((dD.out.set_ 0 (.int .u8 2)).set_ 1 (.int .i64 0)).set_ 2 (.string ⟨#[120]⟩)).set_ 3 (.slice none 0 0);refine bodyPost_ret_by (results_cell_row rfl _ _ w.heap.size 26 #[.int .u8 2,.int .i64 0,.string ⟨#[120]⟩,.slice none 0 0] _ _ rfl (show Blk _ w.heap.size 26 #[.int .u8 2,.int .i64 0,.string ⟨#[120]⟩,.slice none 0 0] by simpa using K9) Tryz.underlying26 rfl (by rw[fH];rfl)) rfl ?_;exact⟨rfl,H.out.fin H3.out jK.out (aH _) _ _ _ _⟩
theorem I4(w:World)(e:TypeId)(s:ByteArray):Below w.heap.size w (Lib.bytesWorld w e s):=
 ⟨rfl,rfl,rfl,by rw[Lib.bytesWorld_size];omega,fun k hk=>Lib.bytesWorld_at_old w e s k hk⟩
theorem TK(w:World):Calls Tryz.prog 165 #[.string ⟨#[51]⟩] w fun e w'=>e=.returned (.tuple #[.int .i64 3,.nilIface])∧Below w.heap.size w w':=by
 have hx:((⟨#[51]⟩:ByteArray)[0]'(by decide)).toNat=51:=by decide
 have gY:∀w:World,(convert 9 52 (.string ⟨#[51]⟩)).run Tryz.prog w=.ok (.slice (some ⟨w.heap.size,0,none⟩) 1 (grownCap w 1 0 5)) (Lib.bytesWorld w 5 ⟨#[51]⟩):=fun w=>Lib.run_convert_string_bytes w 9 52 5 ⟨#[51]⟩ Tryz.underlying9 Tryz.underlying52 Tryz.underlying5
 go_enter Tryz.func165,Tryz.ntmps165;go_upto_region 10 with fail;refine aB ?_;intro w1 aF;have aG:Below w.heap.size w w1:=by rw[aF];exact I4 w _ _
 have d0:w1.cell? ⟨w.heap.size,0,none⟩=some (.int .u8 51):=by rw[aF];exact Lib.bytesWorld_cell w _ _ 0 (by decide)
 have aO:=aA aG;clear aF aG gY
 go_loopw [6,49] (fun v6 v49 wr=>(v49=.int .i64 0∧v6=.int .i64 0∨v49=.int .i64 1∧v6=.int .i64 3)∧w1=wr) (fun _ v49 _=>1-(intOf v49).toNat)
 case atStart=>exact⟨.inl ⟨rfl,rfl⟩,rfl⟩
 case round=>
  obtain⟨hv,rfl⟩:=hrel;rcases hv with⟨rfl,rfl⟩|⟨rfl,rfl⟩
  ·go_wp2_with fail
   exact⟨⟨.inr ⟨rfl,rfl⟩,trivial⟩,by simp[intOf]⟩
  ·go_wp2_with fail
   go_ret2
   exact⟨rfl,aO.out⟩
theorem TD(w:World):Calls Tryz.prog 147 #[.string ⟨#[51]⟩] w fun e w'=>e=.returned (.tuple #[.int .i64 3,.nilIface])∧Below w.heap.size w w':=by
 go_enter Tryz.func147,Tryz.ntmps147;go_wp2_with fail;refine(TK _).mono ?_;rintro en w1 ⟨rfl,aG⟩;have aO:=aA aG;clear aG;go_wp2_with fail
 go_ret2
 exact⟨rfl,aO.out⟩
theorem MO{w:World}{b g c r:Nat}(h:PT w b g c r 6):
  Calls Tryz.prog 114 #[.pointer (some ⟨b,0,none⟩),.int .i64 0,.int .i64 9223372036854775807] w fun e w'=>e=.returned (.int .i64 3)∧PT w' b g c r 7∧Fr (· =b) w w':=by
 have H:=aA h;have IY:=h.pa.blk.lt;have G9:=aA (iH h.pa (2,⟨#[51]⟩,18) rfl);have ft0:=vH;clear h;go_enter Tryz.func114,Tryz.ntmps114;go_wp2_with fail;refine G9.out.mono ?_;rintro en w1 ⟨rfl,aG⟩;have H1:=aA (H.out.next aG);have iL:=aA (Fr.of (O:=(· =b)) aG);clear aG G9;go_upto_region 2 with fail;refine aB ?_;intro w2 eD;have hb2:Below w1.heap.size w1 w2:=by rw[eD];go_grown
 have K2:Blk w2 w1.heap.size 142 #[.int .u8 2,.string ⟨#[51]⟩,.int .i64 18]:=by rw[eD];exact aQ
 have bI:=aA K2;have H2:=aA (H1.out.next hb2);have lG:=aA (iL.out.next hb2);have dG:w1.heap.size≠b:=by have:=H1.out.pa.blk.lt;omega
 clear eD hb2 K2;obtain⟨G2,xT,E0⟩:=bI.out.open_;obtain⟨T7,I0,G5⟩:=H2.out.pa.blk.open_;go_upto_region 6 with fail;refine aB ?_;intro w3 dP;have kE:Fr (· =b) w2 w3:=by rw[dP];exact Fr.set (Fr.refl (· =b) _) rfl _
 have hp3:PA w3 b g 9 7 c (.map (some r)) BV 23:=H2.out.pa.step kE (by rw[dP];simpa using H2.out.pa.blk.set_ 1 (.int .i64 7));have H3:=aA (H2.out.fr kE hp3);have jK:=aA (lG.out.trans kE);have dD:=aA (kE.blk bI.out dG);clear dP kE hp3 G2 xT E0 T7 I0 G5;obtain⟨G2,xT,E0⟩:=dD.out.open_;go_wp2_with fail;refine(TD w3).mono ?_;rintro en w4 ⟨rfl,bV⟩;have H4:=aA (H3.out.next bV);have l9:=aA (jK.out.next bV);clear bV G2 xT E0;go_wp2_with fail;go_ret;exact⟨rfl,H4.out,l9.out⟩
end Go.Proofs.YtakfdnnlhjhcfaaGreatDoor
