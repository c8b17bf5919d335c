/- A crate's writer is closed; a crate packed. codec.Decode by *expand.Decoder. codec.Decode by SCSU: what is whole. The answers that the document fixes. The reference's trail bytes; whether a byte stands for nothing but itself. -/
import Derived.Test.YtooiooledeblmaaGreatZ14
set_option linter.unusedVariables false
set_option linter.unusedSimpArgs false
namespace Go.Proofs.YtooiooledeblmaaGreat
namespace Dcd
open Go.RowKit Win Stp Mach Dec Go.Proofs.YtooiooledeblmaaGreatW.PrintMore Out Go.Proofs.YtooiooledeblmaaGreat.Lst
def ClosePost (w0:World) (k:Nat) (e:Ending) (w':World):Prop:=(∃s:ByteArray,e= .returned (.tuple #[.string s,.int .i64 0])∧s.size=k)∧Below w0.heap.size w0 w'
theorem rowIn_self {w:World} {g n c':Nat} {c:Int} {bg:Bool} {A:Option Addr} {l:List Int} (h:WrAt w g c n bg false (.slice A l.length c')) (hr:∀wx,Chg (ES g) w wx→Lst wx .u32 A l) (hn:A=none→c'=0) (hl:l.length≤c'):RowIn w w g c n bg A c' l:=⟨h,Chg.refl _,hr,hn,hl⟩
theorem close_end {w0 w:World} {g:Nat} {c:Int} {n:Nat} {v:Value} (h:WrAt w g c n true false v) (hb:Below w0.heap.size w0 w) (hg:w0.heap.size≤g):
  Calls Tryz.prog 61 #[.pointer (some ⟨g,5,none⟩)] ((w.setCell ⟨g,3,none⟩ (.bool true)).setCell ⟨g,4,none⟩ (.slice none 0 0)) fun e w'=>(∃s:ByteArray,e= .returned (.string s)∧s.size=25)∧Below w0.heap.size w0 w':=by
 have h4:=(h.set3 true).set4 (.slice none 0 0)
 obtain ⟨a,b,d,hb4⟩:=h4.blk;refine (end_calls2 g 5 a b d _ (by rw [cell_of hb4];rfl) (by rw [cell_of hb4];rfl) (by rw [cell_of hb4];rfl)).mono ?_;rintro e w' ⟨h1,h2⟩
 have hb':=(hb.setCell (p:=⟨g,3,none⟩) hg (.bool true)).setCell (p:=⟨g,4,none⟩) hg (.slice none 0 0)
 exact ⟨h1,hb'.trans (Below.mono h2 hb'.size)⟩
set_option maxRecDepth 100000 in
set_option maxHeartbeats 8000000 in
theorem close_calls {c:Int} {enc:List Int→List Int} {M:Nat} (hE:EncOK c enc M) {g n c':Nat} {A:Option Addr} {l:List Int} {w0 w:World} (h:RowIn w w g c n true A c' l) (hb:Below w0.heap.size w0 w) (hg:w0.heap.size≤g) (hs:Scal l) (hl:l.length≤M):
  Calls Tryz.prog 33 #[.pointer (some ⟨g,0,none⟩)] w (ClosePost w0 ((if l.length=0 then 0 else 13+(enc l).length)+25)):=by
 have htop:=hE.top;have HE:=Lib.hid hE;have H:=Lib.hid h;have HB:=Lib.hid hb;have HS:=Lib.hid hs;have c3:=h.wr.c3;have HBg:=Lib.hid (begin_again h.wr)
 obtain ⟨K,hK⟩:∃K,K=(if l.length=0 then 0 else 13+(enc l).length)+25:=⟨_,rfl⟩
 have HK:=Lib.hid hK;rw [←hK]
 clear hE h hb hs hK;go_enter Tryz.func33,Tryz.ntmps33;go_wp2_with fail;refine HBg.out.mono ?_;rintro e w1 ⟨⟨s,rfl,hs⟩,h1,hc1⟩
 have h1':=H.out.at hc1 h1;have c4:=h1.c4;have H1:=Lib.hid h1';have HB1:=Lib.hid (Chg.below HB.out hc1 (fun i hi=>by have:i=g:=hi;omega))
 clear h1 hc1 h1' c3
 by_cases h0:l.length=0
 ·have c4':w1.cell? ⟨g,4,none⟩=some (.slice A 0 c'):=by rw [c4,h0]
  have hKe:K=25:=by rw [HK.out,if_pos h0]
  have HKe:=Lib.hid hKe;have f3:=H1.out.wr.fz 3;have f4:=H1.out.wr.fz 4;have c3:=H1.out.wr.c3;have HEn:=Lib.hid (close_end H1.out.wr HB1.out hg)
  clear c4 h0 hKe HK;go_wp2_with fail;refine HEn.out.mono ?_;rintro e w2 ⟨⟨t,rfl,ht⟩,hb2⟩
  have HB2:=Lib.hid hb2;have hz:(s++t).size=25:=by rw [ByteArray.size_append];omega
  clear hb2;go_wp2_with fail;go_ret2;exact ⟨⟨_,rfl,by rw [HKe.out];exact hz⟩,HB2.out⟩
 ·have hKe:K=13+(enc l).length+25:=by rw [HK.out,if_neg h0]
  have HKe:=Lib.hid hKe;have hpos:1≤l.length:=by omega
  have HWb:=Lib.hid (wb_at HE.out H1.out (Nat.le_refl _) hpos (by omega) HS.out hl)
  have hel:=HE.out.len l HS.out hl;clear hKe HK;go_wp2_with fail;refine HWb.out.mono ?_;rw [List.take_length]
  rintro e w2 ⟨⟨t,rfl,ht⟩,h2,hc2⟩
  have f3:=h2.fz 3;have f4:=h2.fz 4;have c3:=h2.c3;have c4':=h2.c4;have HEn:=Lib.hid (close_end h2 (Chg.below HB1.out hc2 (fun i hi=>by have:i=g:=hi;omega)) hg)
  have HT:=Lib.hid ht;clear c4 h2 hc2;go_wp2_with fail;refine HEn.out.mono ?_;rintro e w3 ⟨⟨u,rfl,hu⟩,hb3⟩
  have HB3:=Lib.hid hb3;have HU:=Lib.hid hu;have hz1:(s++t).size=13+(enc l).length:=by rw [ByteArray.size_append];omega
  clear hb3;go_wp2_with fail;go_ret2;exact ⟨⟨_,rfl,by rw [HKe.out,ByteArray.size_append,hz1,HU.out]⟩,HB3.out⟩
def packLen (enc:List Int→List Int) (n:Nat) (l:List Int):Nat:=39+sumB (fun x=>(enc x).length) n l ((l.length+n-1)/n)
theorem pack_sum {enc:List Int→List Int} {n k:Nat} {l:List Int} (h1:k*n≤l.length) (h2:l.length<k*n+n):
  14+sumB (fun x=>(enc x).length) n l k+((if (l.drop (k*n)).length=0 then 0 else 13+(enc (l.drop (k*n))).length)+25)=packLen enc n l:=by
 have hn:0<n:=by omega
 unfold packLen;have hd:(l.drop (k*n)).length=l.length-k*n:=List.length_drop
 by_cases h0:(l.drop (k*n)).length=0
 ·have hl:l.length=k*n:=by omega
  have hk:(l.length+n-1)/n=k:=by
   rw [hl]
   have:k*n+n-1=(n-1)+n*k:=by rw [Nat.mul_comm n k];omega
   rw [this,Nat.add_mul_div_left _ _ hn,Nat.div_eq_of_lt (by omega),Nat.zero_add]
  rw [if_pos h0,hk]
  omega
 ·have hk:(l.length+n-1)/n=k+1:=by
   have:l.length+n-1=(l.length-k*n-1)+n*(k+1):=by rw [Nat.mul_add,Nat.mul_comm n k,Nat.mul_one];omega
   rw [this,Nat.add_mul_div_left _ _ hn,Nat.div_eq_of_lt (by omega),Nat.zero_add]
  rw [if_neg h0,hk,sumB_succ,List.take_of_length_le (by omega)]
  omega
def PackPost (w:World) (k:Nat) (e:Ending) (w':World):Prop:=(∃s:ByteArray,e= .returned (.tuple #[.string s,.agg #[.int .i64 0,.int .i64 0]])∧s.size=k)∧Below w.heap.size w w'
set_option maxRecDepth 100000 in
set_option maxHeartbeats 8000000 in
theorem pack_calls {c:Int} {enc:List Int→List Int} {M:Nat} (hE:EncOK c enc M) {n cap:Nat} {A:Option Addr} {l:List Int} {w:World} (hL:∀wx,Below w.heap.size w wx→Lst wx .u32 A l) (hs:Scal l) (hl:l.length≤M) (hnil:A=none→cap=0) (hn1:1≤n) (hn2:n≤65536):
  Calls Tryz.prog 16 #[.int .i64 c,.int .i64 n,.slice A l.length cap] w (PackPost w (packLen enc n l)):=by
 have htop:=hE.top;have HE:=Lib.hid hE;have HL:=Lib.hid hL;have HS:=Lib.hid hs;have HNil:=Lib.hid hnil;clear hE hL hs hnil;go_enter Tryz.func16,Tryz.ntmps16;go_wp2_with fail;refine (newWriter_calls HE.out.lo HE.out.hi (by omega) (by omega) _).mono ?_;rintro e w1 ⟨g,hg,rfl,h1,hb1⟩
 have hr0:=heap_alloc_new w (.cells #[.int .i64 0,.int .i64 0] 39)
 have hz0:(w.alloc (.cells #[.int .i64 0,.int .i64 0] 39)).heap.size=w.heap.size+1:=by simp
 have hb0:Below w.heap.size w (w.alloc (.cells #[.int .i64 0,.int .i64 0] 39)):=(Below.refl _ w).alloc (Nat.le_refl _) _;generalize w.alloc (.cells #[.int .i64 0,.int .i64 0] 39)=wa at hr0 hz0 hb0 hb1 hg ⊢;have hLa:∀wx,Below wa.heap.size wa wx→Lst wx .u32 A l:=fun wx hx=>HL.out wx (hb0.trans (Below.mono hx hb0.size))
 have HAdd:=Lib.hid (add_calls HE.out (cap:=cap) h1 hb1 hg hLa HS.out hl HNil.out hn1 hn2)
 have HR0:=Lib.hid hr0;have HZ0:=Lib.hid hz0;have HB0:=Lib.hid hb0;have HG:=Lib.hid hg;clear h1 hr0 hz0 hb0 hb1 hg hLa HL;go_wp2_with fail;refine HAdd.out.mono ?_;rintro e w2 ⟨k,A2,c2,s,hk1,hk2,rfl,hsz,h2,hro2,hn2',hle2,hb2⟩
 have hr2:=(hb2.block w.heap.size (by rw [HZ0.out];omega)).trans HR0.out;obtain ⟨w3,hw3⟩:∃w3,w3=w2.alloc (.cells #[.int .i64 0,.int .i64 0] 39):=⟨_,rfl⟩
 have hb23:Below w2.heap.size w2 w3:=by rw [hw3];exact (Below.refl _ _).alloc (Nat.le_refl _) _
 have hb3:=hb2.trans (Below.mono hb23 hb2.size)
 have hr3:=(hb23.block w.heap.size (Array.getElem?_eq_some_iff.1 hr2).1).trans hr2;have hin:=rowIn_self (h2.below hb23) (fun wx hx=>hro2 wx ((Chg.of_below hb23).trans hx)) hn2' hle2;have HCl:=Lib.hid (close_calls HE.out hin hb3 HG.out (HS.out.drop _) (by rw [List.length_drop];omega))
 have HSum:=Lib.hid (pack_sum (enc:=enc) hk1 hk2)
 have HSz:=Lib.hid hsz;have HR3:=Lib.hid hr3;have hz1:s.size≤5000000:=by
  have:=sumB_len HE.out n HS.out hl k;have:=blk_le hk1 hn1;omega
 have hen:=HE.out.len (l.drop (k*n)) (HS.out.drop _) (by rw [List.length_drop];omega)
 clear hk1 hk2 hsz h2 hro2 hn2' hle2 hb2 hr2 hb23 hb3 hr3 hin HAdd;go_upto_region 7 with fail;rw [←hw3]
 clear hw3;go_wp2_with fail;refine HCl.out.mono ?_;rintro e w4 ⟨⟨t,rfl,ht⟩,hb4⟩
 have hr4:=(hb4.block w.heap.size (by rw [HZ0.out];omega)).trans HR0.out;have r0:w4.cell? ⟨w.heap.size,0,none⟩=some (.int .i64 0):=by rw [cell_of hr4];rfl
 have r1:w4.cell? ⟨w.heap.size,1,none⟩=some (.int .i64 0):=by rw [cell_of hr4];rfl
 have fr:=frozen_of hr4;have HB4:=Lib.hid (HB0.out.trans (Below.mono hb4 HB0.out.size))
 have HZ:=Lib.hid (show (s++t).size=packLen enc n l by rw [ByteArray.size_append,HSz.out,ht,HSum.out])
 have hz2:t.size≤5000000:=by
  rw [ht]
  split <;>omega
 clear hb4 hr4 ht;go_wp2_with fail;refine bodyPost_ret (v:=.tuple #[.string (s++t),.agg #[.int .i64 0,.int .i64 0]]) (by
  have e0:((w4.setCell ⟨w.heap.size,0,none⟩ (.int .i64 0)).setCell ⟨w.heap.size,1,none⟩ (.int .i64 0)).cell? ⟨w.heap.size,0,none⟩=some (.int .i64 0):=by rw [World.cell?_setCell_other _ _ _ _ (by simp),World.cell?_setCell_same _ _ _ r0]
  have e1:((w4.setCell ⟨w.heap.size,0,none⟩ (.int .i64 0)).setCell ⟨w.heap.size,1,none⟩ (.int .i64 0)).cell? ⟨w.heap.size,1,none⟩=some (.int .i64 0):=by rw [World.cell?_setCell_same (u:=.int .i64 0) _ _ _ (by rw [World.cell?_setCell_other _ _ _ _ (by simp)];exact r1)]
  simp [results,Tryz.results16,go_sem,e0,e1]) rfl ⟨⟨_,rfl,HZ.out⟩,(HB4.out.setCell (p:=⟨w.heap.size,0,none⟩) (Nat.le_refl _) _).setCell (p:=⟨w.heap.size,1,none⟩) (Nat.le_refl _) _⟩
theorem told_pos {R:Type} {B:R→Int→List Int} (N:R→Int→R) (h:∀r c,1≤(B r c).length) (l:List Int) (r:R) (hl:1≤l.length):1≤(told B N r l).length:=by
 cases l with
 |nil=>simp at hl
 |cons x xs=>
  have:=h r x;simp only [told,List.length_append]
  omega
theorem u16_pos (big:Bool) (c:Int):1≤(u16B big () c).length:=by
 unfold u16B uni16B
 split
 ·rw [unitB_len];decide
 ·rw [List.length_append,unitB_len];omega
theorem mod8_pos (c:Int):1≤(mod8B c).length:=by
 unfold mod8B
 repeat' split
 all_goals simp
theorem encOK_all {c:Int} (hc:(1≤c∧c≤6)∨c=8):EncOK c (encS c) 600:=by
 have hlen:∀l,(encS c l).length≤5*l.length:=by
  intro l;have:c=1∨c=2∨c=3∨c=4∨c=5∨c=6∨c=8:=by omega
  rcases this with rfl|rfl|rfl|rfl|rfl|rfl|rfl
  ·exact told_len unN (fun _ c=>uni8B_len c) l ()
  ·exact told_len unN (fun _ c=>uni16B_len true c) l ()
  ·exact told_len unN (fun _ c=>uni16B_len false c) l ()
  ·exact told_len unN (fun _ c=>uni32B_len true c) l ()
  ·exact told_len unN (fun _ c=>uni32B_len false c) l ()
  ·exact told_len unN ebB_len l ()
  ·exact told_len bocuN bocuB_len l 64
 refine ⟨Nat.le_refl _,by omega,by omega,fun l _ hl=>by have:=hlen l;omega,?_,fun hL hs hl hcap _=>encode_all hc hL hs hl hcap⟩
 intro l hs hl h1;have:c=1∨c=2∨c=3∨c=4∨c=5∨c=6∨c=8:=by omega
 rcases this with rfl|rfl|rfl|rfl|rfl|rfl|rfl
 ·exact told_pos unN (fun _ c=>by unfold u8B uni8B;(repeat' split) <;>simp) l () h1
 ·exact told_pos unN (fun _ c=>u16_pos true c) l () h1
 ·exact told_pos unN (fun _ c=>u16_pos false c) l () h1
 ·exact told_pos unN (fun _ c=>by unfold u32B uni32B;split <;>simp) l () h1
 ·exact told_pos unN (fun _ c=>by unfold u32B uni32B;split <;>simp) l () h1
 ·exact told_pos unN (fun _ c=>by unfold ebB;rw [List.length_map];exact mod8_pos c) l () h1
 ·exact told_pos bocuN (fun r c=>by unfold bocuB;split;simp;unfold packC;simp) l 64 h1
end Dcd
namespace Dcd
open Go.RowKit Win Stp Mach Dec Go.Proofs.YtooiooledeblmaaGreatW.PrintMore
theorem mkd_expand (v:Value) (w:World):(Instr.makeInterface 138 v).run Tryz.prog w= .ok (.iface 138 v) w:=run_makeInterface w 138 v (by kernel_rfl)
theorem feedd_expand (g:Nat) (w:World):(method 407 138 (.pointer (some ⟨g,0,none⟩)) "Feed").run Tryz.prog w= .ok (271,.pointer (some ⟨g,0,none⟩)) w:=by kernel_rfl
theorem endd_expand (g:Nat) (w:World):(method 407 138 (.pointer (some ⟨g,0,none⟩)) "End").run Tryz.prog w= .ok (270,.pointer (some ⟨g,0,none⟩)) w:=by kernel_rfl
theorem doned_expand (g:Nat) (w:World):(method 407 138 (.pointer (some ⟨g,0,none⟩)) "Done").run Tryz.prog w= .ok (228,.pointer (some ⟨g,0,none⟩)) w:=by kernel_rfl
theorem faild_expand (g:Nat) (w:World):(method 407 138 (.pointer (some ⟨g,0,none⟩)) "Fail").run Tryz.prog w= .ok (140,.pointer (some ⟨g,0,none⟩)) w:=by kernel_rfl
attribute [local go_sem] mkd_expand feedd_expand endd_expand doned_expand faild_expand
set_option maxRecDepth 100000 in
set_option maxHeartbeats 8000000 in
theorem decode_expand {c:Int} {s:ByteArray} {out:List Int} {w:World} (hnew:∀wx,Calls Tryz.prog 37 #[.int .i64 c] wx (NewDPost 138 271 270 s out wx)) (h0:0<out.length) (hl:out.length≤100000) (hs:s.size≤100000):
  Calls Tryz.prog 18 #[.int .i64 c,.string s] w (DecPost w out):=by
 have HNew:=Lib.hid hnew;clear hnew;obtain ⟨i0,hi,hz0,hz1,hz2⟩:=info_parts info_u32;have HN:Hid (i0.zero=some (.int .u32 0)∧i0.size=1∧i0.bytes=4∧Tryz.prog.info? 31=some i0):=⟨hz0,hz1,hz2,hi⟩
 clear hz0 hz1 hz2 hi;go_enter Tryz.func18,Tryz.ntmps18;go_wp2_with fail;refine (HNew.out _).mono ?_;rintro e w1 ⟨g,own,hown,hg,rfl,hb,hrd⟩
 obtain ⟨w0,hw0⟩:∃w0,w0=w.alloc (.cells #[.int .i64 0,.int .i64 0] 39):=⟨_,rfl⟩
 rw [←hw0] at hown hg hb;have hz0:w0.heap.size=w.heap.size+1:=by rw [hw0];simp
 have hr0:w0.heap[w.heap.size]? =some (.cells #[.int .i64 0,.int .i64 0] 39 (0,0)):=by rw [hw0];exact heap_alloc_new _ _
 have hb0:Below w.heap.size w w0:=by rw [hw0];exact (Below.refl _ _).alloc (Nat.le_refl _) _
 have HR1:=Lib.hid ((hb.block w.heap.size (by omega)).trans hr0)
 have HB1:=Lib.hid (hb0.trans (Below.mono hb (by omega)))
 have HOw:=Lib.hid (show ∀i,own i→w.heap.size<i∧i<w1.heap.size from fun i hi=>by have:=hown i hi;omega)
 have HRd:=Lib.hid hrd;have HG:=Lib.hid (show w.heap.size<g by omega)
 clear hrd hb hw0 hz0 hr0 hb0 hown hg;go_wp2_with fail;go_loopw [1,8] (fun v o wr=>v= .string s∧o= .slice none 0 0∧w1=wr) (fun _ _ _=>0)
 case atStart=>exact ⟨rfl,rfl,rfl⟩
 case round=>
  obtain ⟨rfl,rfl,rfl⟩:=hrel;have HFd:=Lib.hid (HRd.out w1 (Below.refl _ _))
  go_wp2_with fail;refine HFd.out.mono ?_;rintro e w2 ⟨A,c2,rfl,hc2,ho2,hfd⟩
  obtain ⟨r,rfl⟩:∃r,A=some ⟨r,0,none⟩:=by
   rcases ho2.2 with ⟨h1,h2⟩|⟨g',cap,cur,h1,_⟩
   ·omega
   ·injection h1 with h1
    exact ⟨_,h1⟩
  have hle:out.length≤c2:=by
   rcases ho2.2 with ⟨h1,_⟩|⟨g',cap,cur,h1,_,_,h4,_⟩
   ·cases h1
   ·injection h1 with _ _ h1;omega
  have hm:c2≤9223372036854775807:=by
   rcases ho2.2 with ⟨h1,_⟩|⟨g',cap,cur,h1,_,_,h4,h5,_⟩
   ·cases h1
   ·injection h1 with _ _ h1;unfold maxLen at h5;omega
  have HR2:=Lib.hid ((hc2.block w.heap.size (Array.getElem?_eq_some_iff.1 HR1.out).1 (fun h=>by have:=HOw.out _ h;omega)).trans HR1.out)
  have HB2:=Lib.hid (Chg.below HB1.out hc2 (fun i hi=>by have:=HOw.out i hi;omega))
  have HC2:=Lib.hid hc2.size;have HCE:=Lib.hid (ho2.cells (g:=r) rfl)
  have HFe:=Lib.hid hfd;clear hc2 ho2 hfd;go_wp2_with (at_builtin;(refine wpList_append_lies _ rfl (.tmp 28) (.tmp 29) 24 rfl w2.heap.size 31 i0 (.int .u32 0) 1 4 Tryz.underlying24 HN.out.2.2.2 HN.out.1 HN.out.2.1 HN.out.2.2.1 rfl (by decide) (.slice none 0 0) 0 [] rfl (World.ownsRow_nil _ _ _ _) ⟨r,0,none⟩ _ _ (u32s out) rfl ?c1 ?c2 ?c3 ?c4 ?c5 ?c6 (Nat.le_refl _) _ rfl ?_;(case c1=>rw [u32s_length];omega);(case c2=>exact HCE.out);(case c3=>intro u hu;unfold u32s at hu;rw [List.mem_map] at hu;obtain ⟨y,_,rfl⟩:=hu;rfl);(case c4=>omega);(case c5=>unfold maxLen;omega);(case c6=>omega);intro r1 c1 w3 hown3 hgrow3 hat3 hlt3;have HO3:=Lib.hid hown3;have HB23:=Lib.hid ((Below.refl _ w2).grown hgrow3 (Nat.le_refl _) (fun k hk=>by simp [Value.ownBlock] at hk));have HE:=Lib.hid (HFe.out w3 HB23.out);clear hown3 hgrow3 hat3 hlt3))
  refine HE.out.mono ?_;rintro e w4 ⟨rfl,hc4,hdn,b,hbs,hb1,hb2⟩
  have HR4:=Lib.hid ((hc4.block w.heap.size (by have:=HC2.out;have:=HB23.out.size;have:=(Array.getElem?_eq_some_iff.1 HR2.out).1;omega) (fun h=>by have:=HOw.out _ h;omega)).trans ((HB23.out.block _ (Array.getElem?_eq_some_iff.1 HR2.out).1).trans HR2.out))
  have HB4:=Lib.hid (Chg.below (HB2.out.trans (Below.mono HB23.out HB2.out.size)) hc4 (fun i hi=>by have:=HOw.out i hi;omega))
  have HO4:=Lib.hid (own_chg HO3.out hc4 (fun i hi=>by have:=HOw.out i hi;have:=HC2.out;omega))
  have HLt:=Lib.hid (show w.heap.size<w2.heap.size from (Array.getElem?_eq_some_iff.1 HR2.out).1)
  have HDn:=Lib.hid hdn;have HFl:=Lib.hid (fail_calls g b w4 hbs)
  have HBb:=Lib.hid (And.intro hb1 hb2)
  clear hc4 hdn hbs hb1 hb2;go_wp2_with fail;go_loopw [8] (fun o wr=>o= .slice (some ⟨r1,0,none⟩) out.length c1∧w4=wr) (fun _ _=>0)
  case atStart=>exact ⟨rfl,rfl⟩
  case round=>
   obtain ⟨rfl,rfl⟩:=hrel;go_wp2_with fail;refine HDn.out.mono ?_;rintro e w6 ⟨rfl,rfl⟩
   go_wp2_with fail;refine HFl.out.mono ?_;rintro e w7 ⟨rfl,rfl⟩
   obtain ⟨w7,hw7⟩:∃w7,w7=w4.alloc (.cells #[.int .i64 b.err,.int .i64 b.pl] 39):=⟨_,rfl⟩
   have hw7':w4.alloc (.cells #[.int .i64 b.err,.int .i64 b.pl] 39)=w7:=hw7.symm;have hr7:w7.heap[w.heap.size]? =some (.cells #[.int .i64 0,.int .i64 0] 39 (0,0)):=by rw [hw7,Below.heap_alloc _ _ _ (Array.getElem?_eq_some_iff.1 HR4.out).1];exact HR4.out
   have hb7:Below w.heap.size w w7:=by rw [hw7];exact HB4.out.alloc HB4.out.size _
   have ho7:=HO4.out.alloc (.cells #[.int .i64 b.err,.int .i64 b.pl] 39)
   rw [←hw7] at ho7;rw [hw7']
   have c0:w7.cell? ⟨w.heap.size,0,none⟩=some (.int .i64 0):=by rw [cell_of hr7];rfl
   have c1':w7.cell? ⟨w.heap.size,1,none⟩=some (.int .i64 0):=by rw [cell_of hr7];rfl
   have f0:=frozen_of hr7 0;have f1:=frozen_of hr7 1;have HB7:=Lib.hid hb7;have HO7:=Lib.hid ho7;clear hw7 hw7' hr7 hb7 ho7;go_wp2_with fail;have e0:((w7.setCell ⟨w.heap.size,0,none⟩ (.int .i64 b.err)).setCell ⟨w.heap.size,1,none⟩ (.int .i64 b.pl)).cell? ⟨w.heap.size,0,none⟩=some (.int .i64 0):=by
    rw [World.cell?_setCell_other _ _ _ _ (by simp),World.cell?_setCell_same _ _ _ c0,HBb.out.1]
   have e1:((w7.setCell ⟨w.heap.size,0,none⟩ (.int .i64 b.err)).setCell ⟨w.heap.size,1,none⟩ (.int .i64 b.pl)).cell? ⟨w.heap.size,1,none⟩=some (.int .i64 0):=by
    rw [World.cell?_setCell_same (u:=.int .i64 0) _ _ _ (by rw [World.cell?_setCell_other _ _ _ _ (by simp)];exact c1'),HBb.out.2]
   refine bodyPost_ret (v:=.tuple #[.slice (some ⟨r1,0,none⟩) out.length c1,.agg #[.int .i64 0,.int .i64 0]]) (by simp [results,Tryz.results18,go_sem,e0,e1]) rfl ⟨r1,c1,rfl,?_,(HB7.out.setCell (p:=⟨w.heap.size,0,none⟩) (Nat.le_refl _) _).setCell (p:=⟨w.heap.size,1,none⟩) (Nat.le_refl _) _⟩
   have ho:=ownsRow_setCell_below (ownsRow_setCell_below HO7.out (a:=⟨w.heap.size,0,none⟩) HLt.out (.int .i64 b.err)) (a:=⟨w.heap.size,1,none⟩) HLt.out (.int .i64 b.pl)
   simp only [Nat.zero_add,List.nil_append] at ho;exact own_weaken ho (Nat.le_of_lt HLt.out)
end Dcd
namespace Dcd
open Go.RowKit Win Stp Mach Dec Go.Proofs.YtooiooledeblmaaGreatW.PrintMore
theorem steps_split:∀(xs:List Int) {ys:List Int} {m m2:M} {e:List Int},steps m (xs++ys)=some (m2,e)→∃m1 e1 e2,steps m xs=some (m1,e1)∧steps m1 ys=some (m2,e2)∧e=e1++e2
 |[],ys,m,m2,e,h=>⟨m,[],e,rfl,h,rfl⟩
 |x::xs,ys,m,m2,e,h=>by
  simp only [List.cons_append,steps] at h
  cases hs:Mach.step m x with
  |none=>rw [hs] at h;cases h
  |some r=>
   obtain ⟨m3,e3⟩:=r;rw [hs] at h;simp only at h
   cases ht:steps m3 (xs++ys) with
   |none=>rw [ht] at h;cases h
   |some r=>
    obtain ⟨m4,e4⟩:=r;rw [ht] at h;simp only [Option.some.injEq,Prod.mk.injEq] at h;obtain ⟨rfl,rfl⟩:=h;obtain ⟨m1,e1,e2,q1,q2,rfl⟩:=steps_split xs ht;exact ⟨m1,e3++e1,e2,by simp only [steps,hs,q1],q2,by rw [List.append_assoc]⟩
theorem fed_whole {b b':B4} {m m' mE:M} {l out oE:List Int} {room:Int} {k:Nat} (h:Fed b m l room k out b' m') (hs:steps m l=some (mE,oE)) (hb:b.going=true) (hr:(oE.length:Int)<room):
  k=l.length∧out=oE∧m'=mE∧Mach.Good m'∧b'={b with at_:=b.at_+l.length}:=by
 have hk:=h.le;have hsp:steps m (l.take k++l.drop k)=some (mE,oE):=by rw [List.take_append_drop];exact hs
 obtain ⟨m1,e1,e2,q1,q2,q3⟩:=steps_split _ hsp;rcases h.way with ⟨m3,w1,_,w2,w3,w4,_⟩|⟨w1,w2,w3,w4⟩
 ·exfalso
  rw [w1] at q1;simp only [Option.some.injEq,Prod.mk.injEq] at q1;obtain ⟨rfl,rfl⟩:=q1;rw [List.drop_eq_getElem_cons w2] at q2;have:l.getD k 0=l[k]:=by rw [List.getD_eq_getElem?_getD,List.getElem?_eq_getElem w2];rfl
  rw [this] at w4;simp only [steps,w4] at q2
  cases q2
 ·rw [w1] at q1
  simp only [Option.some.injEq,Prod.mk.injEq] at q1;obtain ⟨rfl,rfl⟩:=q1;have hkl:k=l.length:=by
   rcases w4 with w4|w4|w4
   ·exact w4
   ·have:oE.length=out.length+e2.length:=by rw [q3,List.length_append]
    omega
   ·rw [hb] at w4;cases w4
  subst hkl;rw [List.take_length,hs] at w1;simp only [Option.some.injEq,Prod.mk.injEq] at w1;obtain ⟨rfl,rfl⟩:=w1;exact ⟨rfl,rfl,rfl,w2,w3⟩
theorem mkd_x (v:Value) (w:World):(Instr.makeInterface 138 v).run Tryz.prog w= .ok (.iface 138 v) w:=run_makeInterface w 138 v (by kernel_rfl)
section
attribute [local go_sem] mkd_x
theorem dnew_9 {s:ByteArray} {mE:M} {out:List Int} (hs:s.size≤100000) (hst:steps m0 (byt s)=some (mE,out)) (hl:out.length≤4000) (hm:mE.beg=0∧mE.upper=0) (w:World):
  Calls Tryz.prog 37 #[.int .i64 9] w (NewDPost 138 271 270 s out w):=by
 go_enter Tryz.func37,Tryz.ntmps37;go_wp2_with fail;refine (newDecoder_calls _).mono ?_;rintro e w1 ⟨rfl,hd,hb,hz⟩
 go_wp2_with fail;go_ret2;refine ⟨w.heap.size+1,FS (w.heap.size+1) w.heap.size nilS,?_,by omega,rfl,hb,?_⟩
 ·intro i hi
  rcases hi with hi|hi|hi
  ·omega
  ·omega
  ·simp [Value.ownBlock] at hi
 ·intro wy hy
  have hdy:DecAt wy (w.heap.size+1) w.heap.size 0 nilS b40 [] m0:=hd.keep hy.size (hy.block _ hd.lt) (hy.block _ hd.win.lt) (fun k hk=>by simp [Value.ownBlock] at hk)
  refine (feed_calls s 4096 hdy good0 hs (by decide) (by decide)).mono ?_;rintro e w2 ⟨k,A,c,o,b',m',rfl,hd2,hc2,ho2,hf⟩
  obtain ⟨rfl,rfl,rfl,hgd,rfl⟩:=fed_whole hf hst rfl (by omega)
  rw [byt_length] at hd2 ⊢;refine ⟨A,c,rfl,hc2,ho2,?_⟩
  intro w3 h3;have hd3:=hd2.keep h3.size (h3.block _ hd2.lt) (h3.block _ hd2.win.lt) (fun k hk=>by simp [Value.ownBlock] at hk)
  refine (end_calls hd3).mono ?_;rintro e w4 ⟨rfl,hd4,hc4⟩
  have he:endB {b40 with at_:=b40.at_+(s.size:Int)} m'={b40 with at_:=b40.at_+(s.size:Int),fin:=true}:=by
   unfold endB cutB;rw [if_neg (fun h=>h.1.elim (fun h=>h hm.1) (fun h=>h hm.2))]
   rfl
  rw [he] at hd4;exact ⟨rfl,hc4,done_calls hd4,_,hd4.base,rfl,rfl⟩
end
set_option maxRecDepth 100000 in
theorem decode_live (w:World):Calls Tryz.prog 18 #[.int .i64 9,.string (strOfNums [18,156])] w (DecPost w [1052]):=by
 have h1:steps m0 (byt (strOfNums [18,156]))=some ({m0 with act:=2},[1052]):=by kernel_rfl
 exact decode_expand (dnew_9 (by decide +kernel) h1 (by decide) ⟨rfl,rfl⟩) (by decide) (by decide) (by decide +kernel)
end Dcd
namespace Dcd
open Go.RowKit Win Stp Mach Dec Go.Proofs.YtooiooledeblmaaGreatW.PrintMore Out Go.Proofs.YtooiooledeblmaaGreat.Lst
theorem fld4 (w:World):(Instr.field 50 (.agg #[.int .i64 1,.int .i64 1,.int .i64 1,.int .i64 0,.int .i64 1,.int .i64 0,.int .i64 0,.int .i64 0,.int .i64 0,.int .u32 65,.int .u32 65]) 4).run Tryz.prog w= .ok (.int .i64 1) w:=by kernel_rfl
theorem fail_eq (w:World):(binOp .eql 39 (.agg #[.int .i64 0,.int .i64 0]) (.agg #[.int .i64 0,.int .i64 0])).run Tryz.prog w= .ok (.bool true) w:=by kernel_rfl
theorem lst_one {w:World} {x:Int}:∀wx,Below (w.alloc (.cells #[.int .u32 x] 31)).heap.size (w.alloc (.cells #[.int .u32 x] 31)) wx→Lst wx .u32 (some ⟨w.heap.size,0,none⟩) [x]:=fun wx hx=>lst_new hx
def FailAt (w:World) (r:Nat):Prop:=w.heap[r]? =some (.cells #[.int .i64 0,.int .i64 0] 39 (0,0))
theorem FailAt.below {w w':World} {r:Nat} (h:FailAt w r) (hb:Below w.heap.size w w'):FailAt w' r:=(hb.block r (Array.getElem?_eq_some_iff.1 h).1).trans h
theorem FailAt.c0 {w:World} {r:Nat} (h:FailAt w r):w.cell? ⟨r,0,none⟩=some (.int .i64 0):=by rw [cell_of h];rfl
theorem FailAt.c1 {w:World} {r:Nat} (h:FailAt w r):w.cell? ⟨r,1,none⟩=some (.int .i64 0):=by rw [cell_of h];rfl
theorem FailAt.lt {w:World} {r:Nat} (h:FailAt w r):r<w.heap.size:=(Array.getElem?_eq_some_iff.1 h).1
theorem FailAt.new (w:World):FailAt (w.alloc (.cells #[.int .i64 0,.int .i64 0] 39)) w.heap.size:=heap_alloc_new _ _
theorem bel_alloc {w:World} (o:Obj):Below w.heap.size w (w.alloc o):=(Below.refl _ w).alloc (Nat.le_refl _) o
def LivePost (w:World) (e:Ending) (w':World):Prop:=e= .returned (.bool true)∧Below w.heap.size w w'
set_option maxRecDepth 100000 in
set_option maxHeartbeats 8000000 in
theorem live_calls (w:World):Calls Tryz.prog 8 #[] w (LivePost w):=by
 have hE8:=fun (w0:World) (r:Nat) (hL:∀wx,Below w0.heap.size w0 wx→Lst wx .u32 (some ⟨r,0,none⟩) [65279])=>encode_all (c:=8) (.inr rfl) (l:=[65279]) (cap:=1) hL (by decide +kernel) (by decide) (by decide)
 rw [show encS 8 [65279]=[251,238,40] from by decide +kernel] at hE8;unfold EncPost at hE8;rw [show strOfNums [251,238,40]=⟨#[251,238,40]⟩ from rfl] at hE8;have hTx:=text_live;unfold EncPost at hTx;rw [show strOfNums [193]=⟨#[193]⟩ from rfl] at hTx;have hPk:=fun (w0:World) (r:Nat) (hL:∀wx,Below w0.heap.size w0 wx→Lst wx .u32 (some ⟨r,0,none⟩) [65])=>pack_calls (encOK_all (c:=1) (.inl (by decide))) (n:=1) (cap:=1) (l:=[65]) hL (by unfold Scal;decide +kernel) (by decide) (fun h=>nomatch h) (Nat.le_refl 1) (by decide)
 rw [show packLen (encS 1) 1 [65]=53 from by decide +kernel] at hPk;have HPk:=Lib.hid hPk;have HE8:=Lib.hid hE8;have HTx:=Lib.hid hTx;clear hE8 hTx hPk;go_enter Tryz.func8,Tryz.ntmps8;go_wp2_with fail;refine (HE8.out _ _ lst_one).mono ?_;rintro e w1 ⟨rfl,hb1⟩
 obtain ⟨r1,hr1⟩:∃r,r=w1.heap.size:=⟨_,rfl⟩
 have hf1:FailAt (w1.alloc (.cells #[.int .i64 0,.int .i64 0] 39)) r1:=by rw [hr1];exact FailAt.new _
 have hb1':Below w.heap.size w (w1.alloc (.cells #[.int .i64 0,.int .i64 0] 39)):=((bel_alloc _).trans (Below.mono hb1 (by simp))).trans (Below.mono (bel_alloc _) (by have:=hb1.size;simp at this;omega))
 have HF1:=Lib.hid hf1;have HB1:=Lib.hid hb1';clear hb1 hb1' hf1;go_upto_region 2 with fail;rw [←hr1]
 clear hr1;generalize w1.alloc (.cells #[.int .i64 0,.int .i64 0] 39)=w2 at HF1 HB1 ⊢;go_wp2_with fail;refine (decode_live _).mono ?_;rintro e w3 ⟨r,c,rfl,ho3,hb3⟩
 have hlt1:=HF1.out.lt;have hL3:∀wx,Below w3.heap.size w3 wx→Lst wx .u32 (some ⟨r,0,none⟩) [1052]:=fun wx hx=>lst_own ho3 hx
 have hB3:=HB1.out.trans (Below.mono hb3 HB1.out.size)
 have hf13:=HF1.out.below hb3;obtain ⟨r2,hr2⟩:∃r,r=w3.heap.size:=⟨_,rfl⟩
 have hba:Below w3.heap.size w3 (w3.alloc (.cells #[.int .i64 0,.int .i64 0] 39)):=bel_alloc _;have hf2:FailAt (w3.alloc (.cells #[.int .i64 0,.int .i64 0] 39)) r2:=by rw [hr2];exact FailAt.new _
 have HF2:=Lib.hid hf2;have HF12:=Lib.hid (hf13.below hba)
 have HL2:=Lib.hid (show ∀wx,Below (w3.alloc (.cells #[.int .i64 0,.int .i64 0] 39)).heap.size (w3.alloc (.cells #[.int .i64 0,.int .i64 0] 39)) wx→Lst wx .u32 (some ⟨r,0,none⟩) [1052] from fun wx hx=>hL3 wx (hba.trans (Below.mono hx hba.size)))
 have HB2:=Lib.hid (hB3.trans (Below.mono hba hB3.size))
 clear hlt1 hL3 hB3 hf13 hba hf2 ho3 hb3 HF1 HB1;go_upto_region 3 with fail;rw [←hr2]
 clear hr2;generalize w3.alloc (.cells #[.int .i64 0,.int .i64 0] 39)=w4 at HF2 HF12 HL2 HB2 ⊢;go_wp2_with fail;refine (HTx.out _).mono ?_;rintro e w5 ⟨rfl,hb5⟩
 have hB5:=HB2.out.trans (Below.mono hb5 HB2.out.size)
 have hf15:=HF12.out.below hb5;have hf25:=HF2.out.below hb5;obtain ⟨r3,hr3⟩:∃r,r=w5.heap.size:=⟨_,rfl⟩
 have hba:Below w5.heap.size w5 (w5.alloc (.cells #[.int .i64 0,.int .i64 0] 39)):=bel_alloc _;have hf3:FailAt (w5.alloc (.cells #[.int .i64 0,.int .i64 0] 39)) r3:=by rw [hr3];exact FailAt.new _
 have HF3:=Lib.hid hf3;have HF13:=Lib.hid (hf15.below hba)
 have HF23:=Lib.hid (hf25.below hba)
 have HL3:=Lib.hid (show ∀wx,Below (w5.alloc (.cells #[.int .i64 0,.int .i64 0] 39)).heap.size (w5.alloc (.cells #[.int .i64 0,.int .i64 0] 39)) wx→Lst wx .u32 (some ⟨r,0,none⟩) [1052] from fun wx hx=>HL2.out wx (hb5.trans (Below.mono (hba.trans (Below.mono hx hba.size)) hb5.size)))
 have HB3:=Lib.hid (hB5.trans (Below.mono hba hB5.size))
 clear hB5 hf15 hf25 hba hf3 hb5 HF2 HF12 HL2 HB2;go_upto_region 4 with fail;rw [←hr3]
 clear hr3;generalize w5.alloc (.cells #[.int .i64 0,.int .i64 0] 39)=w6 at HF3 HF13 HF23 HL3 HB3 ⊢;go_wp2_with fail;refine (HPk.out _ _ lst_one).mono ?_;rintro e w7 ⟨⟨s,rfl,hs⟩,hb7⟩
 have hb7:=(bel_alloc _).trans (Below.mono hb7 (by simp))
 have hB7:=HB3.out.trans (Below.mono hb7 HB3.out.size)
 have hf17:=HF13.out.below hb7;have hf27:=HF23.out.below hb7;have hf37:=HF3.out.below hb7;obtain ⟨r4,hr4⟩:∃r,r=w7.heap.size:=⟨_,rfl⟩
 have hba:Below w7.heap.size w7 (w7.alloc (.cells #[.int .i64 0,.int .i64 0] 39)):=bel_alloc _;have hf4:FailAt (w7.alloc (.cells #[.int .i64 0,.int .i64 0] 39)) r4:=by rw [hr4];exact FailAt.new _
 have HF4:=Lib.hid hf4;have HF14:=Lib.hid (hf17.below hba)
 have HF24:=Lib.hid (hf27.below hba)
 have HF34:=Lib.hid (hf37.below hba)
 have HL4:=Lib.hid (show ∀wx,Below (w7.alloc (.cells #[.int .i64 0,.int .i64 0] 39)).heap.size (w7.alloc (.cells #[.int .i64 0,.int .i64 0] 39)) wx→Lst wx .u32 (some ⟨r,0,none⟩) [1052] from fun wx hx=>HL3.out wx (hb7.trans (Below.mono (hba.trans (Below.mono hx hba.size)) hb7.size)))
 have HB4:=Lib.hid (hB7.trans (Below.mono hba hB7.size))
 clear hB7 hf17 hf27 hf37 hba hf4 hb7 HF3 HF13 HF23 HL3 HB3;go_upto_region 5 with fail;rw [←hr4]
 clear hr4;generalize w7.alloc (.cells #[.int .i64 0,.int .i64 0] 39)=w8 at HF4 HF14 HF24 HF34 HL4 HB4 ⊢;have c10:=HF14.out.c0;have c11:=HF14.out.c1;have c20:=HF24.out.c0;have c21:=HF24.out.c1;have c30:=HF34.out.c0;have c31:=HF34.out.c1;have c40:=HF4.out.c0;have c41:=HF4.out.c1;have hfe:=fail_eq w8;go_wp2_with fail;have hba:Below w8.heap.size w8 (w8.alloc (.cells #[.int .u32 1052] 31)):=bel_alloc _;refine (same_calls (xs:=[1052]) (ys:=[1052]) (c:=c) (d:=1) (HL4.out _ hba) (lst_one _ (Below.refl _ _)) (by decide) (by decide)).mono ?_;rintro e w9 ⟨rfl,hd⟩
 have hb9:Below w8.heap.size w8 w9:=hba.trans (hd.below _)
 have k20:=(HF24.out.below hb9).c0;have k21:=(HF24.out.below hb9).c1;have k30:=(HF34.out.below hb9).c0;have k31:=(HF34.out.below hb9).c1;have k40:=(HF4.out.below hb9).c0;have k41:=(HF4.out.below hb9).c1;have hfe:=fail_eq w9;have HB9:=Lib.hid (HB4.out.trans (Below.mono hb9 HB4.out.size))
 have hsz:((s.size:Int)==53)=true:=by rw [hs];rfl
 rw [show decide (([1052]:List Int)=[1052])=true from rfl]
 clear c10 c11 c20 c21 c30 c31 c40 c41 hb9 hd hba HB4 HL4 HF4 HF14 HF24 HF34;go_wp2_with fail;have htl:=tally_live w9.heap.size (w9.alloc (.cells #[.int .u32 65] 31)) (by rw [cell_of (heap_alloc_new _ _)];rfl)
 unfold tallyV at htl;refine htl.mono ?_;rintro e w10 ⟨rfl,hb10⟩
 have HB10:=Lib.hid (HB9.out.trans (Below.mono ((bel_alloc _).trans (Below.mono hb10 (by simp))) HB9.out.size))
 clear hb10 htl;have hf4:=fld4 w10;go_wp2_with fail;go_ret;exact ⟨rfl,HB10.out⟩
end Dcd
namespace Dcd
open Go.RowKit Win Stp Out Go.Proofs.YtooiooledeblmaaGreat.Lst
theorem info_b:(Tryz.prog.info? 5).map (fun i=>(i.zero,i.size,i.bytes))=some (some (.int .u8 0),1,1):=by kernel_rfl
def u8s (xs:List Int):List Value:=xs.map fun x=> .int .u8 x
theorem u8s_length (xs:List Int):(u8s xs).length=xs.length:=by simp [u8s]
theorem u8s_append (xs ys:List Int):u8s (xs++ys)=u8s xs++u8s ys:=by simp [u8s]
theorem lst_u8 {w:World} {base n:Nat} {A:Option Addr} {c:Nat} {xs:List Int} (h:w.ownsRow base 5 1 (.slice A n c) n (u8s xs)):Lst w .u8 A xs:=fun j hj=>by
 have hn:n=xs.length:=by have:=h.1;rw [u8s_length] at this;omega
 subst hn;obtain ⟨r,c',hv,_,_⟩:=h.form (by omega)
 injection hv with hA _ _
 subst hA;have hcells:=h.cells (g:=r) rfl;refine ⟨_,rfl,hcells j _ ?_⟩
 unfold u8s;rw [List.getElem?_map,List.getElem?_eq_getElem hj,List.getD_eq_getElem?_getD,List.getElem?_eq_getElem hj]
 rfl
set_option maxRecDepth 100000 in
theorem app_u8 {P:Program} (hP:P=Tryz.prog) {w:World} {ops:Array Oper} {rest:List Oper} {o:Oper} {a:Act} {Q:Exit→Act→World→Prop} (hgd:o.guard=none) (s x:Operand)
  (ho:o.op= .call {callee:=.builtin .append,args:=#[s,x],argTypes:=#[68,68]})
  (base:Nat) (v:Value) (xs:List Int) (hs:a.eval s=v) (hown:w.ownsRow base 5 1 v xs.length (u8s xs))
  (r:Nat) (y:Int) (hx:a.eval x= .slice (some ⟨r,0,none⟩) 1 1) (hL:w.cell? ⟨r,0,none⟩=some (.int .u8 y))
  (h63:xs.length≤1000000) (hbase:base≤w.heap.size)
  (h:∀A' c' w',w'.ownsRow base 5 1 (.slice A' (xs++[y]).length c') (xs++[y]).length (u8s (xs++[y]))→w.grownBy w' v.ownBlock→wpList P ops Q rest (a.put o.dst (.slice A' (xs++[y]).length c')) w'):wpList P ops Q (o::rest) a w:=by
 subst hP;obtain ⟨i0,hi,hz0,hz1,hz2⟩:=info_parts info_b;refine wpList_append_own w hgd s x 68 ho base 5 i0 (.int .u8 0) 1 1 Tryz.underlying68 hi hz0 hz1 hz2 rfl (by decide) v xs.length (u8s xs) hs hown ⟨r,0,none⟩ 1 1 [.int .u8 y] hx rfl ?_ ?_ (by unfold maxLen;omega) (by omega) hbase (fun v' w' h1 h2 _=>?_)
 ·intro j u hu
  match j,hu with
  |0,hu=>simp at hu;subst hu;exact hL
 ·intro u hu
  simp at hu;subst hu
  rfl
 ·rw [show [Value.int .u8 y]=u8s [y] from rfl,←u8s_append] at h1
  obtain ⟨A',c',rfl⟩:=owns_form h1;have hl:(xs++[y]).length=xs.length+1:=by simp
  have:=h A' c' w';rw [hl] at this;exact this h1 h2
def trB (n:Int):Bool:=decide (n≤6)||(decide (16≤n)&&decide (n≤25))||(decide (28≤n)&&decide (n≤31))||decide (33≤n)
def trL:Nat→List Int
 |0=>[]
 |n+1=>if n=0 then [] else trL n++if trB n=true then [(n:Int)] else []
def TR:List Int:=trL 256
theorem trL_le:∀n,(trL n).length≤n
 |0=>Nat.le_refl _
 |n+1=>by
  have:=trL_le n;unfold trL
  split
  ·simp
  ·rw [List.length_append]
   split <;>simp <;>omega
theorem trL_succ {n:Nat} (h:1≤n):trL (n+1)=trL n++if trB n=true then [(n:Int)] else []:=by
 rw [trL,if_neg (by omega)]
def TrailsPost (w:World) (e:Ending) (w':World):Prop:=∃A c,e= .returned (.slice A TR.length c)∧w'.ownsRow w.heap.size 5 1 (.slice A TR.length c) TR.length (u8s TR)∧Below w.heap.size w w'
def TrailsRel (w:World) (v i:Value) (wr:World):Prop:=∃(n:Nat) (A:Option Addr) (c:Nat),1≤n∧n≤256∧i= .int .i64 n∧v= .slice A (trL n).length c∧wr.ownsRow w.heap.size 5 1 (.slice A (trL n).length c) (trL n).length (u8s (trL n))∧Below w.heap.size w wr
set_option maxRecDepth 100000 in
set_option maxHeartbeats 4000000 in
theorem trails_calls (w:World):Calls Tryz.prog 41 #[] w (TrailsPost w):=by
 go_enter Tryz.func41,Tryz.ntmps41;go_wp2_with fail;go_loopw [1,2] (fun v i wr=>TrailsRel w v i wr) (fun _ i _=>256-(intOf i).toNat)
 case atStart=>exact ⟨1,some ⟨w.heap.size,0,none⟩,0,Nat.le_refl _,by decide,rfl,rfl,World.ownsRow_lit (base:=w.heap.size) (e:=5) (size:=1) w #[] 0 (Nat.le_refl _) (by decide) rfl,(Below.refl _ _).alloc (Nat.le_refl _) _⟩
 case round=>
  obtain ⟨n,A,c,hn1,hn2,rfl,rfl,ho,hb⟩:=hrel;have hle:=trL_le n;have HO:=Lib.hid ho;have HB:=Lib.hid hb;clear ho hb
  by_cases hlt:n<256
  ·have hsucc:=trL_succ hn1
   have hw8:IntKind.u8.wrap (n:Int)=n:=by rw [IntKind.wrap_u8];omega
   have HOa:=Lib.hid (HO.out.alloc (.cells #[.int .u8 (n:Int)] 5))
   have HCa:=Lib.hid (show (wr.alloc (.cells #[.int .u8 (n:Int)] 5)).cell? ⟨wr.heap.size,0,none⟩=some (.int .u8 n) by rw [cell_of (heap_alloc_new _ _)];rfl)
   have HBa:=Lib.hid (HB.out.alloc HB.out.size (.cells #[.int .u8 (n:Int)] 5))
   go_upto_region 5 with fail;go_cut [29] from 5 to 30 (fun v wx=>v= .bool (trB n)∧wr=wx)
   case first=>
    go_wp2_with fail
    all_goals
     go_meet;refine ⟨?_,rfl⟩
     show Value.bool _=Value.bool (trB n)
     congr 1
     unfold trB;rw [Bool.eq_iff_iff]
     simp
     try omega
   case rest=>
    obtain ⟨rfl,rfl⟩:=hcut
    cases ht:trB n with
    |true=>
     rw [if_pos ht] at hsucc;have HS:=Lib.hid hsucc;clear hsucc ht;go_wp2_with (at_builtin;refine app_u8 rfl rfl _ _ rfl w.heap.size _ (trL n) rfl HOa.out _ _ rfl HCa.out (by omega) HBa.out.size ?_;intro A' c' w2 h1 h2;rw [←HS.out] at h1;rw [←HS.out];have H1:=Lib.hid h1;have H2:=Lib.hid (HBa.out.grown h2 HBa.out.size (fun k hk=>(HOa.out.lt k hk).1));clear h1 h2)
     go_roundw
     case rel=>exact ⟨n+1,A',c',by omega,by omega,by go_num,rfl,H1.out,H2.out⟩
     case measure=>simp [intOf];omega
    |false=>
     rw [if_neg (by rw [ht];decide),List.append_nil] at hsucc;have HS:=Lib.hid hsucc;clear hsucc ht;go_wp2_with fail;go_roundw
     case rel=>exact ⟨n+1,A,c,by omega,by omega,by go_num,by rw [HS.out],by rw [HS.out];exact HO.out,HB.out⟩
     case measure=>simp [intOf];omega
  ·obtain rfl:n=256:=by omega
   go_wp2_with fail;go_ret;exact ⟨A,c,rfl,HO.out,HB.out⟩
end Dcd
namespace Dcd
open Go.RowKit Win Stp Out Go.Proofs.YtooiooledeblmaaGreat.Lst
theorem take_succ' {l:List Int} {k:Nat} (h:k<l.length):l.take (k+1)=l.take k++[l.getD k 0]:=by
 rw [List.take_succ_eq_append_getElem h,List.getD_eq_getElem?_getD,List.getElem?_eq_getElem h];rfl
def isS (c:Int):Bool:= !(decide (55296≤c)&&decide (c≤57343))&&decide (c≤1114111)
theorem isS_iff {c:Int}:isS c=true↔¬(55296≤c∧c≤57343)∧c≤1114111:=by
 unfold isS;simp;omega
theorem ris_calls (c:Int) (w:World):Calls Tryz.prog 40 #[.int .u32 c] w fun e w'=>e= .returned (.bool (isS c))∧w=w':=by
 by_cases h1:55296≤c
 ·by_cases h2:c≤57343
  ·have e:isS c=false:=by rw [←Bool.not_eq_true,isS_iff];omega
   rw [e]
   clear e;go_enter Tryz.func40,Tryz.ntmps40;go_wp2;go_ret;exact ⟨rfl,rfl⟩
  ·have e:isS c=decide (c≤1114111):=by rw [Bool.eq_iff_iff,isS_iff];simp;omega
   rw [e]
   clear e;go_enter Tryz.func40,Tryz.ntmps40;go_wp2;go_ret;exact ⟨rfl,rfl⟩
 ·have e:isS c=true:=by rw [isS_iff];omega
  have h3:c≤1114111:=by omega
  rw [e]
  clear e;go_enter Tryz.func40,Tryz.ntmps40;go_wp2;go_ret;exact ⟨rfl,rfl⟩
def FirstPost (w:World) (l:List Int) (e:Ending) (w':World):Prop:=∃r:Int,e= .returned (.int .i64 r)∧((r= -1∧∀x∈l,isS x=true)∨(0≤r∧∃x∈l,isS x=false))∧Drew w w'
def FirstRel (w:World) (l:List Int) (i:Value) (wr:World):Prop:=∃k:Nat,k≤l.length∧i= .int .i64 k∧Drew w wr∧∀x∈l.take k,isS x=true
theorem rfirst_calls {w:World} {A:Option Addr} {c:Nat} {l:List Int} (h:Lst w .u32 A l) (hl:l.length≤1000000):Calls Tryz.prog 21 #[.slice A l.length c] w (FirstPost w l):=by
 have H:=Lib.hid h;clear h;go_enter Tryz.func21,Tryz.ntmps21;go_wp2_with fail;go_loopw [3] (fun i wr=>FirstRel w l i wr) (fun i _=>l.length-(intOf i).toNat)
 case atStart=>exact ⟨0,Nat.zero_le _,rfl,Drew.refl _,fun x hx=>by cases hx⟩
 case round=>
  obtain ⟨k,hk,rfl,hd,ha⟩:=hrel;have HD:=Lib.hid hd;have HAl:=Lib.hid ha;clear hd ha
  by_cases hlt:k<l.length
  ·obtain ⟨a,rfl,q⟩:=(Lst.drew H.out HD.out) k hlt
   have htk:=take_succ' hlt;have hmem:l.getD k 0∈l:=by rw [List.getD_eq_getElem?_getD,List.getElem?_eq_getElem hlt];exact List.getElem_mem _
   generalize l.getD k 0=x at q htk hmem;have HMem:=Lib.hid hmem;have HTK:=Lib.hid htk;have hisx:=ris_calls x;clear htk hmem
   cases hx:isS x with
   |true=>
    have HX:=Lib.hid hx;rw [hx] at hisx;have HIS:=Lib.hid hisx;clear hx hisx;go_wp2_with (go_at_call 40;refine (HIS.out _).mono ?_;rintro e w1 ⟨rfl,rfl⟩)
    go_roundw
    case rel=>
     refine ⟨k+1,hlt,by go_num,HD.out,fun y hy=>?_⟩
     rw [HTK.out] at hy;rcases List.mem_append.1 hy with hy|hy
     ·exact HAl.out y hy
     ·rw [List.mem_singleton.1 hy];exact HX.out
    case measure=>simp [intOf];omega
   |false=>
    have HX:=Lib.hid hx;rw [hx] at hisx;have HIS:=Lib.hid hisx;clear hx hisx;go_wp2_with (go_at_call 40;refine (HIS.out _).mono ?_;rintro e w1 ⟨rfl,rfl⟩)
    go_ret;exact ⟨k,rfl,.inr ⟨by omega,x,HMem.out,HX.out⟩,HD.out⟩
  ·obtain rfl:k=l.length:=by omega
   go_wp2_with fail;go_ret;exact ⟨-1,rfl,.inl ⟨rfl,by have:=HAl.out;rw [List.take_length] at this;exact this⟩,HD.out⟩
theorem isB_isS {c:Int} (h0:0≤c) (h:isS c=true):isB c=true:=by
 rw [isS_iff] at h;unfold isB;simp;omega
def SmallPost (w:World) (l:List Int) (most:Int) (e:Ending) (w':World):Prop:=(∃b:Bool,e= .returned (.bool b)∧(b=true→(l.length:Int)≤most∧Scal l))∧Below w.heap.size w w'
theorem small_great {w:World} {A:Option Addr} {n c:Nat} {most:Int} (h:most<n):Calls Tryz.prog 9 #[.slice A n c,.int .i64 most] w fun e w'=>e= .returned (.bool false)∧w=w':=by
 go_enter Tryz.func9,Tryz.ntmps9;go_wp2_with fail;go_ret;exact ⟨rfl,rfl⟩
theorem small_calls {w:World} {A:Option Addr} {c:Nat} {l:List Int} {most:Int} (hL:Lst w .u32 A l) (h0:∀x∈l,0≤x) (hl:l.length≤1000000):Calls Tryz.prog 9 #[.slice A l.length c,.int .i64 most] w (SmallPost w l most):=by
 by_cases hm:(l.length:Int)≤most
 ·have HF:=Lib.hid (rfirst_calls (c:=c) hL hl)
  have H0:=Lib.hid h0;clear hL h0;go_enter Tryz.func9,Tryz.ntmps9;go_wp2_with fail;refine HF.out.mono ?_;rintro e w1 ⟨r,rfl,hr,hd⟩
  have HD:=Lib.hid hd;clear hd;rcases hr with ⟨rfl,hall⟩|⟨hr,_⟩
  ·have HA:=Lib.hid hall
   clear hall;go_wp2_with fail;go_ret;exact ⟨⟨true,rfl,fun _=>⟨hm,fun x hx=>⟨H0.out x hx,isB_isS (H0.out x hx) (HA.out x hx)⟩⟩⟩,HD.out.below _⟩
  ·have hr':decide (r<0)=false:=by simp;omega
   go_wp2_with fail;go_ret;exact ⟨⟨false,by rw [←hr'];rfl,fun h=>by cases h⟩,HD.out.below _⟩
 ·refine (small_great (A:=A) (c:=c) (w:=w) (show most<(l.length:Int) by omega)).mono ?_
  rintro e w' ⟨rfl,rfl⟩
  exact ⟨⟨false,rfl,fun h=>by cases h⟩,Below.refl _ _⟩
end Dcd
namespace Pun
open Go.RowKit Go.Sort Win Stp Go.Proofs.YtooiooledeblmaaGreat.Lst Out Srt
abbrev PT:TypeId:=180
def p1 (n:Nat):B4:={b40 with at_:=(n:Int)}
def p2 (n:Nat):B4:={p1 n with fin:=true}
def NewP (w:World) (e:Ending) (w':World):Prop:=e= .returned (.pointer (some ⟨w.heap.size,0,none⟩))∧OutAt PT w' w.heap.size b40 [] [.slice none 0 0]∧Below w.heap.size w w'
theorem newp_calls (w:World):Calls Tryz.prog 66 #[] w (NewP w):=by
 go_enter Tryz.func66,Tryz.ntmps66;go_wp2_with fail;go_ret;exact ⟨rfl,⟨heap_alloc_new _ _⟩,(Below.refl _ _).alloc (Nat.le_refl _) _⟩
def PfRel (w:World) (g:Nat) (l:List Int) (v8:Value) (wr:World):Prop:=
 ∃(n:Nat) (A:Option Addr) (c:Nat),n≤l.length∧v8= .int .i64 n∧OutAt PT wr g (p1 n) [] [.slice A n c]∧wr.ownsRow w.heap.size 31 1 (.slice A n c) n (u32s (l.take n))∧(n=0→A=none)∧Chg (ES g) w wr
def PfPost (w:World) (g:Nat) (l:List Int) (e:Ending) (w':World):Prop:=
 e= .returned (.tuple #[.int .i64 l.length,.string (strOfNums [])])∧(∃A c,OutAt PT w' g (p1 l.length) [] [.slice A l.length c]∧MsAt w' A l)∧Chg (ES g) w w'
theorem own_ms {w:World} {B c:Nat} {A:Option Addr} {xs:List Int} (h:w.ownsRow B 31 1 (.slice A xs.length c) xs.length (u32s xs)):MsAt w A xs:=by
 have hl:=Lst.of_owns h;rcases h.2 with ⟨h1,h2⟩|⟨g,c',cur,hv,hb,hg,_⟩
 ·injection h1 with h1
  exact .inl ⟨h1,List.eq_nil_of_length_eq_zero h2⟩
 ·injection hv with h1
  subst h1;exact .inr ⟨g,cur,rfl,hg,hl⟩
theorem out_keep {w w':World} {g:Nat} {b:B4} {l:List Int} {rs:List Value} {row:Option Nat} (h:OutAt PT w g b l rs) (hg:w.grownBy w' row) (hr:row≠some g):OutAt PT w' g b l rs:=
 h.keep (hg.block g h.lt (fun e=>hr e.symm))
set_option maxHeartbeats 4000000 in
set_option maxRecDepth 1000000 in
theorem pfeed_calls {w:World} {g:Nat} {A0:Option Addr} {cap:Nat} {l:List Int} (h:OutAt PT w g b40 [] [.slice none 0 0]) (hA:∀wr,Chg (ES g) w wr→Lst wr .u32 A0 l) (hl:l.length≤400) (hs:∀x∈l,0≤x∧isB x=true):
  Calls Tryz.prog 160 #[.pointer (some ⟨g,0,none⟩),.slice A0 l.length cap,.int .i64 4096] w (PfPost w g l):=by
 obtain ⟨i0,hi,hz0,hz1,hz2⟩:=info_parts info_u32;have HN:Hid (i0.zero=some (.int .u32 0)∧i0.size=1∧i0.bytes=4∧Tryz.prog.info? 31=some i0):=⟨hz0,hz1,hz2,hi⟩
 have H:=Lib.hid h;have HA:=Lib.hid hA;have HS:=Lib.hid hs;have hgw:g<w.heap.size:=h.lt;clear hz0 hz1 hz2 hi h hA hs;go_enter Tryz.func160,Tryz.ntmps160;go_wp2_with fail;go_loopw [8] (fun v8 wr=>PfRel w g l v8 wr) (fun v8 _=>l.length-(intOf v8).toNat)
 case atStart=>exact ⟨0,none,0,Nat.zero_le _,rfl,H.out,World.ownsRow_nil _ _ _ _,fun _=>rfl,Chg.refl _⟩
 case round=>
  obtain ⟨n,A,c,hn,rfl,ho,hown,hnil,hc⟩:=hrel;have HO:=Lib.hid ho;have HOwn:=Lib.hid hown;have HC:=Lib.hid hc;have hgoing:=going_calls g _ wr ho.base;have hge:(p1 n).going=true:=rfl;rw [hge] at hgoing;have HGg:=Lib.hid hgoing;have hgv:=give_calls 4096 ho (by decide) (by decide)
  have HGv:=Lib.hid hgv;clear ho hown hc hgoing hge hgv
  by_cases hlt:n<l.length
  ·obtain ⟨a,rfl,q⟩:=(HA.out wr HC.out) n hlt
   have hrx:=HS.out (l.getD n 0) (by rw [List.getD_eq_getElem?_getD,List.getElem?_eq_getElem hlt];exact List.getElem_mem _)
   have htk:l.take (n+1)=l.take n++[l.getD n 0]:=by rw [List.take_succ_eq_append_getElem hlt,List.getD_eq_getElem?_getD,List.getElem?_eq_getElem hlt];rfl
   have hqb:=World.block_lt_of_cell? wr _ q;generalize l.getD n 0=x at q hrx htk;obtain ⟨x0,xb⟩:=hrx;have hisx:=sis_calls x;rw [xb] at hisx;have HIs:=Lib.hid hisx;have HTk:=Lib.hid htk;have hea:=fun (wy:World) (k:OutAt PT wy g (p1 n) [] [.slice A n c])=>k
   have hrg:(Value.slice A n c).ownBlock≠some g:=fun e=>by
    have:=(HOwn.out.lt g e).1;omega
   have HRg:=Lib.hid hrg;have q5:=HO.out.c5;have qz:=HO.out.fz 5;have qlt:=HO.out.lt;have hbw:w.heap.size≤wr.heap.size:=HC.out.size;clear hisx htk hea hrg xb;go_wp2_with fail;refine HGg.out.mono ?_;rintro e w2 ⟨rfl,rfl⟩
   go_wp2_with fail;refine (HIs.out _).mono ?_;rintro e w2 ⟨rfl,rfl⟩
   have qb:Below wr.heap.size wr (wr.alloc (.cells #[.int .u32 x] 31)).drew:=((Below.refl wr.heap.size wr).alloc (Nat.le_refl _) _).drew;have QB:=Lib.hid qb;clear qb;go_wp2_with fail;go_region_law (refine step_append_lies (wr.alloc (.cells #[.int .u32 x] 31)).drew rfl (.tmp 35) (.tmp 40) 24 rfl w.heap.size 31 i0 (.int .u32 0) 1 4 Tryz.underlying24 HN.out.2.2.2 HN.out.1 HN.out.2.1 HN.out.2.2.1 rfl (by decide) _ _ _ rfl (HOwn.out.alloc (.cells #[.int .u32 x] 31)) ⟨wr.heap.size,0,none⟩ 1 1 [.int .u32 x] rfl rfl ?c1 ?c2 (by decide) ?c3 ?c4 ?c5 _ rfl ?_;(case c1=>exact World.news_of_block (w:=(wr.alloc (.cells #[.int .u32 x] 31)).drew) (heap_alloc_new wr _));(case c2=>intro q hq;simp at hq;subst hq;rfl);(case c3=>unfold maxLen;omega);(case c4=>omega);(case c5=>exact Nat.le_trans hbw QB.out.size);intro r c1 w1 hown1 hgrow1 hat1 hlt1;have HOut1:=Lib.hid (out_keep (HO.out.below QB.out) hgrow1 HRg.out);have hcs1:=HOut1.out.c5;have hfs1:=HOut1.out.fz 5;have HO1:=Lib.hid hown1;have HG1:=Lib.hid hgrow1;clear hown1 hgrow1 hat1 hlt1)
   all_goals
    have hset:=HOut1.out.set5 (.slice (some ⟨r,0,none⟩) (n+1) c1)
    have hcs:Chg (ES g) w (w1.setCell ⟨g,5,none⟩ (.slice (some ⟨r,0,none⟩) (n+1) c1)):=((chg_then (HC.out.trans (Chg.of_below (S:=ES g) QB.out)) (chg_grown HG1.out) (fun i hi e=>absurd (HOwn.out.lt i e).1 (by omega))).trans (es_g 5 _))
    have hea:=eat_calls g _ 1 _ hset.base rfl (by decide) (by decide) (show (0:Int)≤(n:Int) by omega) (show (n:Int)≤1000000000 by omega)
    have hown2:(w1.setCell ⟨g,5,none⟩ (.slice (some ⟨r,0,none⟩) (n+1) c1)).ownsRow w.heap.size 31 1 (.slice (some ⟨r,0,none⟩) (n+1) c1) (n+1) (u32s (l.take n)++[.int .u32 x]):=own_chg HO1.out (es_g 5 _) (fun k hk=>by have:=(HO1.out.lt k hk).1;intro hh;have hh:k=g:=hh;omega)
    have HSet:=Lib.hid hset;have HCs:=Lib.hid hcs;have HEa:=Lib.hid hea;have HOw2:=Lib.hid hown2;clear hset hcs hea hown2;generalize w1.setCell ⟨g,5,none⟩ (.slice (some ⟨r,0,none⟩) (n+1) c1)=w2 at HSet HCs HEa HOw2 ⊢;go_wp2_with fail;refine HEa.out.mono ?_;rintro e w3 ⟨rfl,rfl⟩
    have hO3:=HSet.out.setAt ((n:Int)+1)
    have hown3:=own_chg HOw2.out (es_g 0 (.int .i64 ((n:Int)+1))) (fun k hk=>by have:=(HOw2.out.lt k hk).1;intro hh;have hh:k=g:=hh;omega)
    have hC3:=HCs.out.trans (es_g 0 (.int .i64 ((n:Int)+1)))
    have HO3:=Lib.hid hO3;have HOw3:=Lib.hid hown3;have HC3:=Lib.hid hC3;clear hO3 hown3 hC3;rw [show (p1 n).at_+1=(n:Int)+1 from rfl]
    generalize w2.setCell ⟨g,0,none⟩ (.int .i64 ((n:Int)+1))=w3 at HO3 HOw3 HC3 ⊢;go_wp2_with fail;go_roundw
    case rel=>
     refine ⟨n+1,some ⟨r,0,none⟩,c1,hlt,by go_num,?_,?_,fun h=>absurd h (by omega),HC3.out⟩
     ·exact HO3.out
     ·rw [HTk.out,u32s_append]
      exact HOw3.out
    case measure=>simp [intOf];omega
  ·obtain rfl:n=l.length:=by omega
   have hown:=HOwn.out;rw [List.take_length] at hown;have HMs:=Lib.hid (own_ms hown)
   clear hown;go_wp2_with fail;refine HGv.out.mono ?_;rintro e w2 ⟨rfl,h2,h3⟩
   have HO2:=Lib.hid h2;have HMs2:=Lib.hid (HMs.out.keep (fun k cur hk hg=>h3.block k (Array.getElem?_eq_some_iff.1 hg).1 (fun hh=>by
    have hh:k=g:=hh;subst hh;have:=HO.out.blk;rw [hg] at this;injection this with this
    injection this with h1 h2
    cases h2)))
   have HC2:=Lib.hid (HC.out.trans h3)
   clear h2 h3;go_wp2_with fail;go_ret2;exact ⟨rfl,⟨A,c,HO2.out,HMs2.out⟩,HC2.out⟩
theorem pdone_calls {w:World} {g:Nat} {b:B4} {l:List Int} {rs:List Value} (h:OutAt PT w g b l rs) (hb:b.going=false) (hl:l.length≤1000000):
  Calls Tryz.prog 138 #[.pointer (some ⟨g,0,none⟩)] w fun e w'=>e= .returned (.bool l.isEmpty)∧w=w':=by
 refine (odone_calls h hl).mono ?_;rintro e w' ⟨rfl,rfl⟩
 refine ⟨?_,rfl⟩
 rw [hb]
 cases l <;>rfl
theorem pmore_calls {w:World} {g n c:Nat} {A:Option Addr} {l:List Int} (h:OutAt PT w g (p2 n) l [.slice A n c]) (hl:l.length≤4096):
  Calls Tryz.prog 160 #[.pointer (some ⟨g,0,none⟩),.slice none 0 0,.int .i64 4096] w fun e w'=>e= .returned (.tuple #[.int .i64 0,.string (strOfNums l)])∧OutAt PT w' g (p2 n) [] [.slice A n c]∧Chg (ES g) w w':=by
 have HGv:=Lib.hid (give_calls 4096 h (by omega) (by omega))
 clear h;go_enter Tryz.func160,Tryz.ntmps160;go_wp2_with fail;go_loopw [8] (fun v8 wr=>v8= .int .i64 0∧wr=w) (fun v8 _=>0)
 case atStart=>exact ⟨rfl,rfl⟩
 case round=>
  obtain ⟨rfl,rfl⟩:=hrel;go_wp2_with fail;refine HGv.out.mono ?_;rintro e w2 ⟨rfl,h2,h3⟩
  go_wp2_with fail;go_ret2;exact ⟨rfl,h2,h3⟩
def PendPost (w:World) (g:Nat) (l:List Int) (A:Option Addr) (c:Nat) (e:Ending) (w':World):Prop:=e= .returned (.tuple #[])∧OutAt PT w' g (p2 l.length) (textP l) [.slice A l.length c]∧Chg (ES g) w w'
set_option maxRecDepth 100000 in
set_option maxHeartbeats 2000000 in
theorem pend_calls {w:World} {g c:Nat} {A:Option Addr} {l:List Int} (h:OutAt PT w g (p1 l.length) [] [.slice A l.length c]) (hm:MsAt w A l) (hl:l.length≤60) (hs:∀x∈l,0≤x∧isB x=true):
  Calls Tryz.prog 159 #[.pointer (some ⟨g,0,none⟩)] w (PendPost w g l A c):=by
 have hgoing:=going_calls g _ w h.base;have hge:(p1 l.length).going=true:=rfl;rw [hge] at hgoing;have HGg:=Lib.hid hgoing;have h5:=h.c5;have H:=Lib.hid h;have hs2:∀x∈l,0≤x∧x≤1114111:=fun x hx=>⟨(hs x hx).1,(isB_iff.1 (hs x hx).2).1⟩
 have htl:=textP_len l hl (fun x hx=>(hs2 x hx).2)
 have htx:=fun (wy:World) (hy:Lst wy .u32 A l)=>text_calls (cap:=c) hy hl hs2
 have HTx:=Lib.hid htx;have HL:=Lib.hid hm.lst;obtain ⟨T,hT⟩:∃T,T=textP l:=⟨_,rfl⟩
 unfold PendPost;unfold TxPost at HTx;rw [←hT] at htl HTx ⊢;clear h hgoing hge hs2 htx hm hs hT;go_enter Tryz.func159,Tryz.ntmps159;go_wp2_with fail;refine HGg.out.mono ?_;rintro e w1 ⟨rfl,rfl⟩
 go_wp2_with fail;go_region_with (first|(go_at_call 161;refine (HTx.out _ (HL.out.below (below_drewN (Below.refl _ _) 1))).mono ?_;rintro e w1 ⟨rfl,hb1⟩;have HO1:=Lib.hid (H.out.below (show Below w.heap.size w w1 from (below_drewN (Below.refl _ _) 1).trans hb1));have HC1:=Lib.hid (Chg.of_below (S:=ES g) (show Below w.heap.size w w1 from (below_drewN (Below.refl _ _) 1).trans hb1));clear hb1)|(go_at_call 146;refine (keep_calls T HO1.out (by simp) (by omega)).mono ?_;rintro e w2 ⟨rfl,h2,h3⟩;have HO2:=Lib.hid h2;have HC2:=Lib.hid (HC1.out.trans h3);clear h2 h3))
 all_goals
  have hend:=oend_calls HO2.out rfl;have HE:=Lib.hid hend;clear hend;go_wp2_with fail;refine HE.out.mono ?_;rintro e w3 ⟨rfl,h4,h5⟩
  have HC3:=Lib.hid (HC2.out.trans h5)
  have HO3:=Lib.hid h4;clear h4 h5;go_wp2_with fail;go_end0;exact ⟨rfl,by have:=HO3.out;rwa [List.nil_append] at this,HC3.out⟩
theorem out_oth {w w':World} {g b:Nat} {b4:B4} {l:List Int} {rs:List Value} {cs:Array Value} (h:OutAt PT w g b4 l rs) (hb:w.heap[b]? =some (.cells cs 70 (0,0))) (ho:Oth b w w'):OutAt PT w' g b4 l rs:=by
 refine h.keep ?_;rw [h.blk]
 refine ho g _ h.blk ?_ (by intro c fz h;injection h with h1 h2;cases h2)
 intro hh;injection hh with hh
 subst hh;rw [h.blk] at hb;injection hb with hb
 injection hb with h1 h2
 cases h2
theorem ms_oth {w w':World} {b:Nat} {A:Option Addr} {xs:List Int} {cs:Array Value} (h:MsAt w A xs) (hb:w.heap[b]? =some (.cells cs 70 (0,0))) (ho:Oth b w w'):MsAt w' A xs:=by
 refine h.keep fun g cur _ hg=>?_
 rw [hg]
 refine ho g _ hg ?_ (by intro c fz h;injection h with h1 h2;cases h2)
 intro hh;injection hh with hh
 subst hh;rw [hg] at hb;injection hb with hb
 injection hb with h1 h2
 cases h2
theorem out_kin {w:World} {g i:Nat} {b4:B4} {l:List Int} {rs:List Value} {cs:Array Value} {T:TypeId} {fz:Nat×Nat} (h:OutAt PT w g b4 l rs) (hi:w.heap[i]? =some (.cells cs T fz)) (hT:T=5∨T=70∨T=39):¬ES g i:=by
 intro hh;have hh:i=g:=hh;subst hh;have:=hi.symm.trans h.blk;injection this with this
 injection this with h1 h2 h3
 rcases hT with rfl|rfl|rfl <;>cases h2
theorem mac_puny (g:Nat) {l:List Int} (hl:l.length≤60) (hs:∀x∈l,0≤x∧isB x=true):
  Mac g (ES g) 160 159 l [] (textP l) (fun w=>OutAt PT w g b40 [] [.slice none 0 0]) (fun w=>∃A c,OutAt PT w g (p1 l.length) [] [.slice A l.length c]∧MsAt w A l)
   (fun w=>∃A c,OutAt PT w g (p2 l.length) (textP l) [.slice A l.length c]) (fun w=>∃A c,OutAt PT w g (p2 l.length) [] [.slice A l.length c]):=by
 have htl:=textP_len l hl (fun x hx=>(isB_iff.1 (hs x hx).2).1)
 refine ⟨fun w w' h hb=>h.below hb,?_,?_,?_,?_,fun w i cs T fz h hi hT=>out_kin h hi hT,?_,?_,?_,?_,?_,?_,?_,?_,?_⟩
 ·rintro w w' ⟨A,c,h⟩ hb;exact ⟨A,c,h.below hb⟩
 ·rintro b w w' cs ⟨A,c,h,hm⟩ hb ho;exact ⟨A,c,out_oth h hb ho,ms_oth hm hb ho⟩
 ·rintro b w w' cs ⟨A,c,h⟩ hb ho;exact ⟨A,c,out_oth h hb ho⟩
 ·rintro b w w' cs ⟨A,c,h⟩ hb ho;exact ⟨A,c,out_oth h hb ho⟩
 ·rintro w i cs T fz ⟨A,c,h,_⟩ hi hT;exact out_kin h hi hT
 ·rintro w i cs T fz ⟨A,c,h⟩ hi hT;exact out_kin h hi hT
 ·intro w A cap h hA
  exact pfeed_calls (cap:=cap) h hA (by omega) hs
 ·rintro w ⟨A,c,h,hm⟩
  exact (pend_calls h hm hl hs).mono fun e w' ⟨h1,h2,h3⟩=>⟨h1,⟨A,c,h2⟩,h3⟩
 ·rintro w ⟨A,c,h⟩
  exact pdone_calls h rfl (by omega)
 ·rintro w ⟨A,c,h⟩ _
  exact (pmore_calls h (by omega)).mono fun e w' ⟨h1,h2,h3⟩=>⟨h1,⟨A,c,h2⟩,h3⟩
 ·rintro w ⟨A,c,h⟩
  exact pdone_calls h rfl (by simp)
 ·rintro w ⟨A,c,h⟩
  exact ⟨_,h.base,rfl,rfl⟩
 ·rintro w ⟨A,c,h⟩
  exact ⟨_,h.base,rfl,rfl⟩
theorem mk_p (v:Value) (w:World):(Instr.makeInterface 119 v).run Tryz.prog w= .ok (.iface 119 v) w:=run_makeInterface w 119 v (by kernel_rfl)
section
attribute [local go_sem] mk_p
theorem new2_7 {l:List Int} (hl:l.length≤60) (hs:∀x∈l,0≤x∧isB x=true) (w:World):Calls Tryz.prog 34 #[.int .i64 7] w (NewPost2 119 160 159 l [] (textP l) w):=by
 go_enter Tryz.func34,Tryz.ntmps34;go_wp2_with fail;refine (newp_calls _).mono ?_;rintro e w1 ⟨rfl,h1,h2⟩
 go_wp2_with fail;go_ret2;refine ⟨_,_,_,_,_,_,mac_puny _ hl hs,rfl,h2,h1,?_⟩
 intro i hi;have hi:i=w.heap.size:=hi;omega
end
theorem encOK_puny:Dcd.EncOK 7 textP 60:=by
 refine ⟨by decide,by decide,by decide,fun l hs hl=>?_,fun l hs hl h1=>textP_pos l h1,fun {w A cap l} hL hs hl hcap _=>?_⟩
 ·have:=textP_len l hl (fun x hx=>(isB_iff.1 (hs x hx).2).1)
  omega
 ·have:=textP_len l hl (fun x hx=>(isB_iff.1 (hs x hx).2).1)
  have h:=encode2_puny (new2_7 hl hs) (by simp) (by omega) hL (by omega) hcap
  rwa [List.nil_append] at h
end Pun
end Go.Proofs.YtooiooledeblmaaGreat
