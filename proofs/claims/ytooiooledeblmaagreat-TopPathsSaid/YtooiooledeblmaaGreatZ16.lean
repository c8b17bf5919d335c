/- codec.Decode by any decoder that tells some scalars when it is fed, and the rest behind its end. UTF-8's decoder: a byte. A decoder that tells all that it holds, as Decode needs it; what steps tell. Punycode's decoder is fed. -/
import Derived.Test.YtooiooledeblmaaGreatZ10
import Derived.Test.YtooiooledeblmaaGreatZ11
import Derived.Shelf.Spec.SlicesInsertGrow
set_option linter.unusedVariables false
set_option linter.unusedSimpArgs false
namespace Go.Proofs.YtooiooledeblmaaGreat
namespace Dcd
open Go.RowKit Win Stp Mach Dec Lst Go.Proofs.YtooiooledeblmaaGreatW.PrintMore
def Told (w:World) (A:Option Addr) (c:Nat) (xs:List Int):Prop:=Lst w .u32 A xs∧(A=none→c=0)
def OverD (g:Nat) (w:World):Prop:=∀w2:World,w2.heap[g]? =w.heap[g]?→Calls Tryz.prog 228 #[.pointer (some ⟨g,0,none⟩)] w2 (fun e w'=>e= .returned (.bool true)∧w2=w')∧∃b,BaseAt w2 g b∧b.err=0∧b.pl=0
def EndD (F:Nat) (own:Nat→Prop) (g:Nat) (o2:List Int) (w:World):Prop:=
 (o2=[]→OverD g w)∧(o2≠[]→Calls Tryz.prog 228 #[.pointer (some ⟨g,0,none⟩)] w (fun e w'=>e= .returned (.bool false)∧w=w')∧
  Calls Tryz.prog F #[.pointer (some ⟨g,0,none⟩),.string ByteArray.empty,.int .i64 4096] w (fun e w2=>∃A c,e= .returned (.tuple #[.int .i64 0,.slice A o2.length c])∧Chg own w w2∧Told w2 A c o2∧OverD g w2))
def FedG (F E:Nat) (own:Nat→Prop) (g:Nat) (o2:List Int) (w2:World):Prop:=∀w3,Below w2.heap.size w2 w3→Calls Tryz.prog E #[.pointer (some ⟨g,0,none⟩)] w3 (fun e w4=>e= .returned (.tuple #[])∧Chg own w3 w4∧EndD F own g o2 w4)
def RdyG (F E:Nat) (own:Nat→Prop) (g:Nat) (s:ByteArray) (o1 o2:List Int) (w1:World):Prop:=∀wy,Below w1.heap.size w1 wy→Calls Tryz.prog F #[.pointer (some ⟨g,0,none⟩),.string s,.int .i64 4096] wy
 (fun e w2=>∃A c,e= .returned (.tuple #[.int .i64 s.size,.slice A o1.length c])∧Chg own wy w2∧Told w2 A c o1∧FedG F E own g o2 w2)
def NewG (PT:TypeId) (F E:Nat) (s:ByteArray) (o1 o2:List Int) (w:World) (e:Ending) (w':World):Prop:=
 ∃g own,(∀i,own i→w.heap.size≤i∧i<w'.heap.size)∧w.heap.size≤g∧g<w'.heap.size∧e= .returned (.tuple #[.iface PT (.pointer (some ⟨g,0,none⟩)),.int .i64 0])∧Below w.heap.size w w'∧RdyG F E own g s o1 o2 w'
def DecG (w:World) (out:List Int) (e:Ending) (w':World):Prop:=
 ∃A c,e= .returned (.tuple #[.slice A out.length c,.agg #[.int .i64 0,.int .i64 0]])∧w'.ownsRow w.heap.size 31 1 (.slice A out.length c) out.length (u32s out)∧(A=none→c=0)∧Below w.heap.size w w'
theorem OverD.keep {g:Nat} {w w2:World} (h:OverD g w) (h2:w2.heap[g]? =w.heap[g]?):OverD g w2:=fun w3 h3=>h w3 (h3.trans h2)
def OverSt (w:World) (B g:Nat) (out:List Int) (v8:Value) (wr:World):Prop:=
 ∃A c,v8= .slice A out.length c∧wr.ownsRow B 31 1 (.slice A out.length c) out.length (u32s out)∧(A=none→c=0)∧OverD g wr∧wr.heap[w.heap.size]? =some (.cells #[.int .i64 0,.int .i64 0] 39 (0,0))∧Below w.heap.size w wr
def DeRel (w:World) (B g:Nat) (o1 o2:List Int) (v1:Value) (w4:World) (k:Nat) (v8:Value) (wr:World):Prop:=
 (k=1∧o2≠[]∧v8=v1∧w4=wr)∨OverSt w B g (o1++o2) v8 wr
structure Disp (PT:TypeId) (F E:Nat):Prop where
 feed:∀(g:Nat) (w:World),(method 407 PT (.pointer (some ⟨g,0,none⟩)) "Feed").run Tryz.prog w= .ok (F,.pointer (some ⟨g,0,none⟩)) w
 fin:∀(g:Nat) (w:World),(method 407 PT (.pointer (some ⟨g,0,none⟩)) "End").run Tryz.prog w= .ok (E,.pointer (some ⟨g,0,none⟩)) w
 don:∀(g:Nat) (w:World),(method 407 PT (.pointer (some ⟨g,0,none⟩)) "Done").run Tryz.prog w= .ok (228,.pointer (some ⟨g,0,none⟩)) w
 fail:∀(g:Nat) (w:World),(method 407 PT (.pointer (some ⟨g,0,none⟩)) "Fail").run Tryz.prog w= .ok (140,.pointer (some ⟨g,0,none⟩)) w
 entF:∀(a b c:Value) (w:World),(callFunc F #[a,b,c]).run Tryz.prog w= .ok (.enter F #[a,b,c]) w
 entE:∀(a:Value) (w:World),(callFunc E #[a]).run Tryz.prog w= .ok (.enter E #[a]) w
set_option maxRecDepth 100000 in
set_option maxHeartbeats 8000000 in
theorem decode_any {PT:TypeId} {F E:Nat} {c:Int} {s:ByteArray} {o1 o2:List Int} {w:World} (hdisp:Disp PT F E) (hnew:∀wx,Calls Tryz.prog 37 #[.int .i64 c] wx (NewG PT F E s o1 o2 wx)) (hl1:o1.length≤100000) (hl2:o2.length≤100000) (hs:s.size≤100000):
  Calls Tryz.prog 18 #[.int .i64 c,.string s] w (DecG w (o1++o2)):=by
 have HNew:=Lib.hid hnew;have m1:=hdisp.feed;have m2:=hdisp.fin;have m3:=hdisp.don;have m4:=hdisp.fail;have m5:=hdisp.entF;have m6:=hdisp.entE;clear hnew hdisp;go_enter Tryz.func18,Tryz.ntmps18;go_wp2_with fail;refine (HNew.out _).mono ?_;rintro e w1 ⟨g,own,hown,hg,hg1,rfl,hb,hrd⟩
 obtain ⟨w0,hw0⟩:∃w0,w0=w.alloc (.cells #[.int .i64 0,.int .i64 0] 39):=⟨_,rfl⟩
 rw [←hw0] at hown hg hb;have hz0:w0.heap.size=w.heap.size+1:=by rw [hw0];simp
 have hr0:w0.heap[w.heap.size]? =some (.cells #[.int .i64 0,.int .i64 0] 39 (0,0)):=by rw [hw0];exact heap_alloc_new _ _
 have hb0:Below w.heap.size w w0:=by rw [hw0];exact (Below.refl _ _).alloc (Nat.le_refl _) _
 have HR1:=Lib.hid ((hb.block w.heap.size (by omega)).trans hr0)
 have HB1:=Lib.hid (hb0.trans (Below.mono hb (by omega)))
 have HOw:=Lib.hid (show ∀i,own i→w.heap.size<i∧i<w1.heap.size from fun i hi=>by have:=hown i hi;omega)
 have HRd:=Lib.hid hrd;have HG1:=Lib.hid hg1;clear hrd hb hw0 hz0 hr0 hb0 hown hg hg1;go_wp2_with fail;go_loopw [1,8] (fun v o wr=>v= .string s∧o= .slice none 0 0∧w1=wr) (fun _ _ _=>0)
 case atStart=>exact ⟨rfl,rfl,rfl⟩
 case round=>
  obtain ⟨rfl,rfl,rfl⟩:=hrel;have HFd:=Lib.hid (HRd.out w1 (Below.refl _ _))
  go_wp2_with fail;refine HFd.out.mono ?_;rintro e w2 ⟨A,c2,rfl,hc2,⟨hT,hn⟩,hfd⟩
  have HR2:=Lib.hid ((hc2.block w.heap.size (Array.getElem?_eq_some_iff.1 HR1.out).1 (fun h=>by have:=HOw.out _ h;omega)).trans HR1.out)
  have HB2:=Lib.hid (Chg.below HB1.out hc2 (fun i hi=>by have:=HOw.out i hi;omega))
  have HC2:=Lib.hid hc2.size;have HT:=Lib.hid hT;have HNn:=Lib.hid hn;have HFe:=Lib.hid hfd;clear hc2 hT hn hfd;go_wp2_with (at_builtin;refine app_lst rfl rfl (.tmp 28) (.tmp 29) rfl w2.heap.size (.slice none 0 0) [] rfl (World.ownsRow_nil _ _ _ _) _ _ o1 rfl HT.out HNn.out (by simp;omega) (Nat.le_refl _) ?_;intro A1 c1 w3 h1 h2 h3;have HO3:=Lib.hid h1;have HB23:=Lib.hid ((Below.refl _ w2).grown h2 (Nat.le_refl _) (fun k hk=>by simp [Value.ownBlock] at hk));have HN3:=Lib.hid h3;have HE:=Lib.hid (HFe.out w3 HB23.out);clear h1 h2 h3)
  refine HE.out.mono ?_;rintro e w4 ⟨rfl,hc4,hend⟩
  have hsz:w.heap.size<w2.heap.size:=(Array.getElem?_eq_some_iff.1 HR2.out).1;have HR4:=Lib.hid ((hc4.block w.heap.size (by have:=HC2.out;have:=HB23.out.size;omega) (fun h=>by have:=HOw.out _ h;omega)).trans ((HB23.out.block _ hsz).trans HR2.out))
  have HB4:=Lib.hid (Chg.below (HB2.out.trans (Below.mono HB23.out HB2.out.size)) hc4 (fun i hi=>by have:=HOw.out i hi;omega))
  have ho3:=HO3.out;rw [List.nil_append] at ho3;have HO4:=Lib.hid (own_chg ho3 hc4 (fun i hi=>by have:=HOw.out i hi;have:=HC2.out;omega))
  have HSz4:=Lib.hid (show w2.heap.size≤w4.heap.size from Nat.le_trans HB23.out.size hc4.size)
  have HEnd:=Lib.hid hend;have HSz:=Lib.hid hsz;clear hc4 hend ho3 hsz HO3;go_wp2_with fail;go_loopg [8,11,12] 1 (fun k v8 v11 v12 wr=>DeRel w w2.heap.size g o1 o2 (.slice A1 o1.length c1) w4 k v8 wr)
  case atStart=>
   by_cases ho:o2=[]
   ·refine .inr ⟨A1,c1,?_,?_,HN3.out,HEnd.out.1 ho,HR4.out,HB4.out⟩
    ·rw [ho,List.append_nil]
    ·rw [ho,List.append_nil];exact HO4.out
   ·exact .inl ⟨rfl,ho,rfl,rfl⟩
  case round=>
   rcases hrel with ⟨rfl,ho,rfl,rfl⟩|⟨A3,c3,rfl,how,hn3,hov,hr,hbl⟩
   ·obtain ⟨hdn,hmo⟩:=HEnd.out.2 ho
    have HDn:=Lib.hid hdn;have HMo:=Lib.hid hmo;have HO2:=Lib.hid ho;clear hdn hmo ho;go_wp2_with fail;refine HDn.out.mono ?_;rintro e w6 ⟨rfl,rfl⟩
    go_wp2_with fail;refine HMo.out.mono ?_;rintro e w5 ⟨A5,c5,rfl,hc5,⟨hT5,hn5⟩,hov5⟩
    have HR5:=Lib.hid ((hc5.block w.heap.size (by have:=HSz.out;have:=HSz4.out;omega) (fun h=>by have:=HOw.out _ h;omega)).trans HR4.out)
    have HB5:=Lib.hid (Chg.below HB4.out hc5 (fun i hi=>by have:=HOw.out i hi;omega))
    have HO5:=Lib.hid (own_chg HO4.out hc5 (fun i hi=>by have:=HOw.out i hi;have:=HC2.out;omega))
    have HSz5:=Lib.hid (show w2.heap.size≤w5.heap.size from Nat.le_trans HSz4.out hc5.size)
    have HT5:=Lib.hid hT5;have HN5:=Lib.hid hn5;have HOv5:=Lib.hid hov5;clear hc5 hT5 hn5 hov5;go_wp2_with (at_builtin;refine app_lst rfl rfl (.tmp 52) (.tmp 53) rfl w2.heap.size (.slice A1 o1.length c1) o1 rfl HO5.out _ _ o2 rfl HT5.out HN5.out (by omega) HSz5.out ?_;intro A6 c6 w6 h1 h2 h3;have HO6:=Lib.hid h1;have HG6:=Lib.hid h2;have HN6:=Lib.hid h3;clear h1 h2 h3)
    go_roundg 0
    case measure=>omega
    case rel=>
     have hne:∀i,i<w2.heap.size→(Value.slice A1 o1.length c1).ownBlock≠some i:=fun i hi e=>by have:=(HO5.out.lt i e).1;omega
     refine .inr ⟨A6,c6,by rw [List.length_append],HO6.out,HN6.out,HOv5.out.keep (HG6.out.block g (by have:=HG1.out;have:=HC2.out;have:=HSz5.out;omega) (fun e=>hne g (by have:=HG1.out;have:=HC2.out;omega) e.symm)),?_,?_⟩
     ·exact (HG6.out.block _ (by have:=HSz.out;have:=HSz5.out;omega) (fun e=>hne _ HSz.out e.symm)).trans HR5.out
     ·exact HB5.out.grown HG6.out HB5.out.size (fun i hi=>by have:=(HO5.out.lt i hi).1;have:=HSz.out;omega)
   ·obtain ⟨hdn,b,hbs,hb1,hb2⟩:=hov wr rfl
    have HDn:=Lib.hid hdn;have HFl:=Lib.hid (fail_calls g b wr hbs)
    have HBb:=Lib.hid (And.intro hb1 hb2)
    have HOv:=Lib.hid how;have HN4:=Lib.hid hn3;have HRr:=Lib.hid hr;have HBl:=Lib.hid hbl;clear hdn hbs hb1 hb2 how hn3 hov hr hbl;go_wp2_with fail;refine HDn.out.mono ?_;rintro e w6 ⟨rfl,rfl⟩
    go_wp2_with fail;refine HFl.out.mono ?_;rintro e w7 ⟨rfl,rfl⟩
    obtain ⟨w7,hw7⟩:∃w7,w7=wr.alloc (.cells #[.int .i64 b.err,.int .i64 b.pl] 39):=⟨_,rfl⟩
    have hw7':wr.alloc (.cells #[.int .i64 b.err,.int .i64 b.pl] 39)=w7:=hw7.symm;have hr7:w7.heap[w.heap.size]? =some (.cells #[.int .i64 0,.int .i64 0] 39 (0,0)):=by rw [hw7,Below.heap_alloc _ _ _ (Array.getElem?_eq_some_iff.1 HRr.out).1];exact HRr.out
    have hb7:Below w.heap.size w w7:=by rw [hw7];exact HBl.out.alloc HBl.out.size _
    have ho7:=HOv.out.alloc (.cells #[.int .i64 b.err,.int .i64 b.pl] 39)
    rw [←hw7] at ho7;rw [hw7']
    have c0:w7.cell? ⟨w.heap.size,0,none⟩=some (.int .i64 0):=by rw [cell_of hr7];rfl
    have c1':w7.cell? ⟨w.heap.size,1,none⟩=some (.int .i64 0):=by rw [cell_of hr7];rfl
    have f0:=frozen_of hr7 0;have f1:=frozen_of hr7 1;have HB7:=Lib.hid hb7;have HO7:=Lib.hid ho7;clear hw7 hw7' hr7 hb7 ho7;go_wp2_with fail;have e0:((w7.setCell ⟨w.heap.size,0,none⟩ (.int .i64 b.err)).setCell ⟨w.heap.size,1,none⟩ (.int .i64 b.pl)).cell? ⟨w.heap.size,0,none⟩=some (.int .i64 0):=by
     rw [World.cell?_setCell_other _ _ _ _ (by simp),World.cell?_setCell_same _ _ _ c0,HBb.out.1]
    have e1:((w7.setCell ⟨w.heap.size,0,none⟩ (.int .i64 b.err)).setCell ⟨w.heap.size,1,none⟩ (.int .i64 b.pl)).cell? ⟨w.heap.size,1,none⟩=some (.int .i64 0):=by
     rw [World.cell?_setCell_same (u:=.int .i64 0) _ _ _ (by rw [World.cell?_setCell_other _ _ _ _ (by simp)];exact c1'),HBb.out.2]
    refine bodyPost_ret (v:=.tuple #[.slice A3 (o1++o2).length c3,.agg #[.int .i64 0,.int .i64 0]]) (by simp [results,Tryz.results18,go_sem,e0,e1]) rfl ⟨A3,c3,rfl,?_,HN4.out,(HB7.out.setCell (p:=⟨w.heap.size,0,none⟩) (Nat.le_refl _) _).setCell (p:=⟨w.heap.size,1,none⟩) (Nat.le_refl _) _⟩
    have ho:=ownsRow_setCell_below (ownsRow_setCell_below HO7.out (a:=⟨w.heap.size,0,none⟩) HSz.out (.int .i64 b.err)) (a:=⟨w.heap.size,1,none⟩) HSz.out (.int .i64 b.pl)
    exact own_weaken ho (Nat.le_of_lt HSz.out)
end Dcd
namespace Dcd
open Go.RowKit Win Stp Mach Dec Go.Proofs.YtooiooledeblmaaGreatW.PrintMore
theorem InAt.setR {T:TypeId} {w:World} {g rb:Nat} {v:Value} {b:B4} {l:List Int} {rs:List Value} (h:InAt T w g rb v b l rs) (k:Nat) (u:Value):InAt T (w.setCell ⟨g,5+k,none⟩ u) g rb v b l (rs.set k u):=by
 refine h.set (5+k) u ?_;unfold inCells;rw [show 5+k=k+5 by omega]
 simp
structure U8 where
 need:Int
 lo:Int
 hi:Int
 c:Int
def u8R (r:U8):List Value:=[.int .i64 r.need,.int .u8 r.lo,.int .u8 r.hi,.int .u32 r.c]
def u8L (x:Int):U8:=
 if x<224 then ⟨1,128,191,x%32⟩ else if x<240 then ⟨2,if x=224 then 160 else 128,if x=237 then 159 else 191,x%16⟩
 else ⟨3,if x=240 then 144 else 128,if x=244 then 143 else 191,x%8⟩
def u8N (r:U8) (x:Int):Option (U8×List Int):=
 if r.need=0 then (if x<128 then some (r,[x]) else if x<194∨244<x then none else some (u8L x,[]))
 else if x<r.lo∨r.hi<x then none
 else if r.need=1 then some (⟨0,128,191,r.c*64+x%64⟩,[r.c*64+x%64]) else some (⟨r.need-1,128,191,r.c*64+x%64⟩,[])
def u8I (r:U8):Prop:=0≤r.need∧r.need≤3∧0≤r.lo∧r.lo≤255∧0≤r.hi∧r.hi≤255∧0≤r.c∧r.c≤4194303∧(r.need=3→r.c≤7)∧(r.need=2→r.c≤1023)∧(r.need=1→r.c≤65535)
def LeadPost (T:TypeId) (g rb:Nat) (v:Value) (b:B4) (l:List Int) (rs:List Value) (w:World) (e:Ending) (w':World):Prop:=e= .returned (.bool true)∧InAt T w' g rb v b l rs∧Chg (IS g v) w w'
set_option maxHeartbeats 4000000 in
theorem lead8_calls {w:World} {g rb:Nat} {v:Value} {b:B4} {l:List Int} {r:U8} (x:Int) (h:InAt 194 w g rb v b l (u8R r)) (h0:194≤x) (h1:x≤244):
  Calls Tryz.prog 235 #[.pointer (some ⟨g,0,none⟩),.int .u8 x] w (LeadPost 194 g rb v b l (u8R (u8L x)) w):=by
 have h5:w.cell? ⟨g,5,none⟩=some (.int .i64 r.need):=h.cell 0;have h6:w.cell? ⟨g,6,none⟩=some (.int .u8 r.lo):=h.cell 1;have h7:w.cell? ⟨g,7,none⟩=some (.int .u8 r.hi):=h.cell 2;have h8:w.cell? ⟨g,8,none⟩=some (.int .u32 r.c):=h.cell 3;have f5:=h.fz 5;have f6:=h.fz 6;have f7:=h.fz 7;have f8:=h.fz 8;have H:=Lib.hid h;have a1:bits .and .u8 x 31=x%32:=bits_mask .u8 8 (by decide) wraps_u8 5 (by decide) x (by omega) (by omega)
 have a2:bits .and .u8 x 15=x%16:=bits_mask .u8 8 (by decide) wraps_u8 4 (by decide) x (by omega) (by omega)
 have a3:bits .and .u8 x 7=x%8:=bits_mask .u8 8 (by decide) wraps_u8 3 (by decide) x (by omega) (by omega)
 clear h;have hcase:x<224∨x=224∨x=237∨(224≤x∧x<240∧x≠224∧x≠237)∨x=240∨x=244∨(240≤x∧x≠240∧x≠244):=by omega
 rcases hcase with c|c|c|c|c|c|c
 ·have e:u8L x=⟨1,128,191,x%32⟩:=by
   unfold u8L;rw [if_pos c]
  rw [e]
  clear e;go_enter Tryz.func235,Tryz.ntmps235;go_wp2_with fail;go_ret;exact ⟨rfl,(((H.out.setR 1 _).setR 2 _).setR 0 _).setR 3 _,(((is_g 6 _).trans (is_g 7 _)).trans (is_g 5 _)).trans (is_g 8 _)⟩
 ·have e:u8L x=⟨2,160,191,x%16⟩:=by
   unfold u8L;subst c;rfl
  rw [e]
  clear e;obtain rfl:=c;go_enter Tryz.func235,Tryz.ntmps235;go_wp2_with fail;go_ret;exact ⟨rfl,((((H.out.setR 1 _).setR 2 _).setR 0 _).setR 3 _).setR 1 _,((((is_g 6 _).trans (is_g 7 _)).trans (is_g 5 _)).trans (is_g 8 _)).trans (is_g 6 _)⟩
 ·have e:u8L x=⟨2,128,159,x%16⟩:=by
   unfold u8L;subst c;rfl
  rw [e]
  clear e;obtain rfl:=c;go_enter Tryz.func235,Tryz.ntmps235;go_wp2_with fail;go_ret;exact ⟨rfl,((((H.out.setR 1 _).setR 2 _).setR 0 _).setR 3 _).setR 2 _,((((is_g 6 _).trans (is_g 7 _)).trans (is_g 5 _)).trans (is_g 8 _)).trans (is_g 7 _)⟩
 ·have e:u8L x=⟨2,128,191,x%16⟩:=by
   unfold u8L;rw [if_neg (by omega),if_pos c.2.1,if_neg c.2.2.1,if_neg c.2.2.2]
  rw [e]
  clear e;obtain ⟨k0,k1,k2,k3⟩:=c;go_enter Tryz.func235,Tryz.ntmps235;go_wp2_with fail;go_ret;exact ⟨rfl,(((H.out.setR 1 _).setR 2 _).setR 0 _).setR 3 _,(((is_g 6 _).trans (is_g 7 _)).trans (is_g 5 _)).trans (is_g 8 _)⟩
 ·have e:u8L x=⟨3,144,191,x%8⟩:=by
   unfold u8L;subst c;rfl
  rw [e]
  clear e;obtain rfl:=c;go_enter Tryz.func235,Tryz.ntmps235;go_wp2_with fail;go_ret;exact ⟨rfl,((((H.out.setR 1 _).setR 2 _).setR 0 _).setR 3 _).setR 1 _,((((is_g 6 _).trans (is_g 7 _)).trans (is_g 5 _)).trans (is_g 8 _)).trans (is_g 6 _)⟩
 ·have e:u8L x=⟨3,128,143,x%8⟩:=by
   unfold u8L;subst c;rfl
  rw [e]
  clear e;obtain rfl:=c;go_enter Tryz.func235,Tryz.ntmps235;go_wp2_with fail;go_ret;exact ⟨rfl,((((H.out.setR 1 _).setR 2 _).setR 0 _).setR 3 _).setR 2 _,((((is_g 6 _).trans (is_g 7 _)).trans (is_g 5 _)).trans (is_g 8 _)).trans (is_g 7 _)⟩
 ·have e:u8L x=⟨3,128,191,x%8⟩:=by
   unfold u8L;rw [if_neg (by omega),if_neg (by omega),if_neg c.2.1,if_neg c.2.2]
  rw [e]
  clear e;obtain ⟨k0,k1,k2⟩:=c;go_enter Tryz.func235,Tryz.ntmps235;go_wp2_with fail;go_ret;exact ⟨rfl,(((H.out.setR 1 _).setR 2 _).setR 0 _).setR 3 _,(((is_g 6 _).trans (is_g 7 _)).trans (is_g 5 _)).trans (is_g 8 _)⟩
set_option maxHeartbeats 8000000 in
theorem next8_calls {w:World} {g rb:Nat} {v:Value} {b:B4} {l:List Int} {r r2:U8} {em:List Int} (x:Int) (h:InAt 194 w g rb v b l (u8R r)) (hI:u8I r) (h0:0≤x) (h1:x≤255) (hl:l.length≤100000) (hn:u8N r x=some (r2,em)):
  Calls Tryz.prog 232 #[.pointer (some ⟨g,0,none⟩),.int .u8 x] w (NextPost 194 u8R g rb v b l w r2 em):=by
 have h5:w.cell? ⟨g,5,none⟩=some (.int .i64 r.need):=h.cell 0;have h6:w.cell? ⟨g,6,none⟩=some (.int .u8 r.lo):=h.cell 1;have h7:w.cell? ⟨g,7,none⟩=some (.int .u8 r.hi):=h.cell 2;have h8:w.cell? ⟨g,8,none⟩=some (.int .u32 r.c):=h.cell 3;have f5:=h.fz 5;have f6:=h.fz 6;have f7:=h.fz 7;have f8:=h.fz 8;unfold u8N at hn
 by_cases hz:r.need=0
 ·rw [if_pos hz] at hn
  rw [hz] at h5
  by_cases hx:x<128
  ·rw [if_pos hx] at hn
   simp only [Option.some.injEq,Prod.mk.injEq] at hn;obtain ⟨rfl,rfl⟩:=hn;have w1:IntKind.u32.wrap x=x:=by rw [IntKind.wrap_u32];omega
   have ha:=h.alloc (.cells #[.int .u32 x] 31)
   have hh:=hold_calls g 4 rb v l x w.heap.size (w.alloc (.cells #[.int .u32 x] 31)) ha.c4 (ha.fz 4) ha.row ha.rbl ha.row_g (by rw [cell_of (heap_alloc_new _ _)];rfl) (by omega)
   have HA:=Lib.hid ha;have HH:=Lib.hid hh;clear h ha hh hI hz h6 h7 h8;go_enter Tryz.func232,Tryz.ntmps232;go_wp2_with fail;refine HH.out.mono ?_;rintro e w' ⟨rfl,r,c,w2,rfl,hown,hg,hat,hr⟩
   obtain ⟨hd,hc⟩:=HA.out.hold x hown hg hr;have HD:=Lib.hid hd;have HC:=Lib.hid hc;clear hd hc hown hg hat hr;go_wp2_with fail;go_ret;exact ⟨rfl,_,HD.out,(Chg.alloc _ _).trans HC.out⟩
  ·rw [if_neg hx] at hn
   split at hn
   ·cases hn
   rename_i hr;simp only [Option.some.injEq,Prod.mk.injEq] at hn;obtain ⟨rfl,rfl⟩:=hn;have HL:=Lib.hid (lead8_calls x h (by omega) (by omega))
   clear h hI hz h6 h7 h8 hr;go_enter Tryz.func232,Tryz.ntmps232;go_wp2_with fail;refine HL.out.mono ?_;rintro e w' ⟨rfl,hd,hc⟩
   have HD:=Lib.hid hd;have HC:=Lib.hid hc;clear hd hc;go_wp2_with fail;go_ret;exact ⟨rfl,_,by rw [List.append_nil];exact HD.out,HC.out⟩
 ·rw [if_neg hz] at hn
  split at hn
  ·cases hn
  rename_i hr;obtain ⟨i1,i2,i3,i4,i5,i6,i7,i8,i9,i10,i11⟩:=hI;have hc16:r.c≤65535:=by omega
  have a1:bits .and .u8 x 63=x%64:=bits_mask .u8 8 (by decide) wraps_u8 6 (by decide) x (by omega) (by omega)
  have o1:bits .or .u32 (r.c*64) (x%64)=r.c*64+x%64:=bits_join .u32 32 (by decide) wraps_u32 6 _ _ (by omega) (by omega) (by omega) (by omega) (by omega) (by omega)
  have w1:IntKind.u32.wrap (r.c*64)=r.c*64:=by rw [IntKind.wrap_u32];omega
  obtain ⟨C,hC⟩:∃C,C=r.c*64+x%64:=⟨_,rfl⟩
  rw [←hC] at o1 hn;have lo1:¬x<r.lo:=by omega
  have hi1:¬r.hi<x:=by omega
  have hC0:0≤C∧C≤4294967295:=by omega
  obtain ⟨hC1,hC2⟩:=hC0;have HZ:=Lib.hid hz;have hn0:1≤r.need:=by omega
  have hd1:=((h.setR 1 (.int .u8 128)).setR 2 (.int .u8 191)).setR 3 (.int .u32 C)
  have hd2:=hd1.setR 0 (.int .i64 (r.need-1))
  have HD:=Lib.hid hd2;have HCg:=Lib.hid ((((is_g (g:=g) (v:=v) (w:=w) 6 (.int .u8 128)).trans (is_g 7 (.int .u8 191))).trans (is_g 8 (.int .u32 C))).trans (is_g 5 (.int .i64 (r.need-1))))
  clear hd1 hd2 hC hz hr h i9 i10 i11
  by_cases hn1:r.need=1
  ·rw [if_pos hn1] at hn
   simp only [Option.some.injEq,Prod.mk.injEq] at hn;obtain ⟨rfl,rfl⟩:=hn;rw [hn1] at h5 HD HCg;rw [show (1:Int)-1=0 from rfl] at HD HCg;clear hn1 hn0;go_enter Tryz.func232,Tryz.ntmps232;go_upto_region 12 with fail;generalize (((w.setCell ⟨g,6,none⟩ (.int .u8 128)).setCell ⟨g,7,none⟩ (.int .u8 191)).setCell ⟨g,8,none⟩ (.int .u32 C)).setCell ⟨g,5,none⟩ (.int .i64 0)=w3 at HD HCg ⊢;have q8:w3.cell? ⟨g,8,none⟩=some (.int .u32 C):=HD.out.cell 3;have qlt:=HD.out.lt;have ha:=(HD.out.alloc (.cells #[.int .u32 C] 31)).drewN 1;have hh:=hold_calls g 4 rb v l C w3.heap.size (w3.alloc (.cells #[.int .u32 C] 31)).drew ha.c4 (ha.fz 4) ha.row ha.rbl ha.row_g (by show World.cell? (w3.alloc (.cells #[.int .u32 C] 31)) ⟨w3.heap.size,0,none⟩=_;rw [cell_of (heap_alloc_new _ _)];rfl) (by omega)
   have HA:=Lib.hid ha;have HH:=Lib.hid hh;clear ha hh h5 h6 h7 h8 f5 f6 f7 f8;go_region_with (go_at_call 234;refine HH.out.mono ?_;rintro e w' ⟨rfl,r',c,w2,rfl,hown,hg,hat,hr⟩;obtain ⟨hd,hc⟩:=HA.out.hold C hown hg hr;have HD2:=Lib.hid hd;have HC2:=Lib.hid hc;clear hd hc hown hg hat hr)
   all_goals
    go_wp2_with fail;go_ret;exact ⟨rfl,_,HD2.out,HCg.out.trans ((((Chg.alloc _ _).trans (Chg.drew _)).mono (fun _ h=>h)).trans HC2.out)⟩
  ·rw [if_neg hn1] at hn
   simp only [Option.some.injEq,Prod.mk.injEq] at hn;obtain ⟨rfl,rfl⟩:=hn;have hn2:¬r.need-1=0:=by omega
   go_enter Tryz.func232,Tryz.ntmps232;go_wp2_with fail;go_ret;exact ⟨rfl,v,by rw [List.append_nil];exact HD.out,HCg.out⟩
end Dcd
namespace Dcd
open Go.RowKit Win Stp Mach Dec Lst Out
theorem told_own {w:World} {B c:Nat} {A:Option Addr} {xs:List Int} (h:w.ownsRow B 31 1 (.slice A xs.length c) xs.length (u32s xs)):Told w A c xs:=by
 refine ⟨Lst.of_owns h,?_⟩
 rintro rfl;rcases h.2 with ⟨h1,_⟩|⟨_,_,_,h1,_⟩
 ·injection h1
 ·injection h1 with h1;cases h1
theorem over_in {T:TypeId} {w:World} {g:Nat} {b:B4} {rs:List Value} (h:InAt T w g 0 nilS b [] rs) (hb:b.going=false) (he:b.err=0) (hp:b.pl=0):OverD g w:=fun w2 h2=>by
 have h3:InAt T w2 g 0 nilS b [] rs:=⟨h2.trans h.blk,World.ownsRow_nil _ _ _ _,fun _=>rfl,Nat.zero_le _,h.ne⟩
 exact ⟨done_in h3 hb,b,h3.base,he,hp⟩
theorem rdy_in {T:TypeId} {R:Type} {rest:R→List Value} {F E g:Nat} {s:ByteArray} {oE:List Int} {r0 rE:R} {w1:World} (hd:InAt T w1 g 0 nilS Dec.b40 [] (rest r0))
  (hf:∀wy,InAt T wy g 0 nilS Dec.b40 [] (rest r0)→Calls Tryz.prog F #[.pointer (some ⟨g,0,none⟩),.string s,.int .i64 4096] wy (InFed T rest g s.size rE oE wy))
  (he:∀w b,InAt T w g 0 nilS b [] (rest rE)→b.going=true→Calls Tryz.prog E #[.pointer (some ⟨g,0,none⟩)] w (fun e w'=>e= .returned (.tuple #[])∧InAt T w' g 0 nilS {b with fin:=true} [] (rest rE)∧Chg (IS g nilS) w w')):
  RdyG F E (IS g nilS) g s oE [] w1:=by
 intro wy hy;have hdy:=hd.keep hy.size (hy.block _ hd.lt) (fun k hk=>by simp [Value.ownBlock] at hk)
 refine (hf wy hdy).mono ?_;rintro e w2 ⟨A,c,rfl,hd2,hc2,ho2⟩
 refine ⟨A,c,rfl,hc2,told_own ho2,?_⟩
 intro w3 h3;have hd3:=hd2.keep h3.size (h3.block _ hd2.lt) (fun k hk=>by simp [Value.ownBlock] at hk)
 refine (he w3 _ hd3 rfl).mono ?_;rintro e w4 ⟨rfl,hd4,hc4⟩
 exact ⟨rfl,hc4,fun _=>over_in hd4 rfl rfl rfl,fun h=>absurd rfl h⟩
theorem is_lt {w w1:World} {g i:Nat} (h1:w.heap.size≤g) (h2:g<w1.heap.size) (h:IS g nilS i):w.heap.size≤i∧i<w1.heap.size:=by
 rcases h with h|h
 ·subst h;exact ⟨h1,h2⟩
 ·simp [Value.ownBlock] at h
theorem stepsR_app {R:Type} {N:R→Int→Option (R×List Int)}:∀(xs ys:List Int) (r r1 r2:R) (e1 e2:List Int),stepsR N r xs=some (r1,e1)→stepsR N r1 ys=some (r2,e2)→stepsR N r (xs++ys)=some (r2,e1++e2)
 |[],ys,r,r1,r2,e1,e2,h1,h2=>by
  simp only [stepsR,Option.some.injEq,Prod.mk.injEq] at h1;obtain ⟨rfl,rfl⟩:=h1;exact h2
 |x::xs,ys,r,r1,r2,e1,e2,h1,h2=>by
  obtain ⟨r3,e,e3,q1,q2,rfl⟩:=stepsR_cons h1;have:=stepsR_app xs ys r3 r1 r2 e3 e2 q2 h2;simp only [List.cons_append,stepsR,q1,this,List.append_assoc]
theorem stepsR_told {R Q:Type} {N:R→Int→Option (R×List Int)} {B:Q→Int→List Int} {M:Q→Int→Q} {P:Q→R→Prop} (h:∀q r c,P q r→0≤c→isB c=true→∃r',stepsR N r (B q c)=some (r',[c])∧P (M q c) r'):
  ∀(l:List Int) (q:Q) (r:R),P q r→(∀x∈l,0≤x∧isB x=true)→∃r',stepsR N r (told B M q l)=some (r',l)∧P (foldN M q l) r'
 |[],q,r,hp,_=>⟨r,rfl,hp⟩
 |c::l,q,r,hp,hs=>by
  obtain ⟨r1,h1,hp1⟩:=h q r c hp (hs c List.mem_cons_self).1 (hs c List.mem_cons_self).2;obtain ⟨r2,h2,hp2⟩:=stepsR_told h l (M q c) r1 hp1 (fun x hx=>hs x (List.mem_cons_of_mem _ hx))
  exact ⟨r2,stepsR_app _ _ _ _ _ _ _ h1 h2,hp2⟩
theorem byt_nums {xs:List Int} (h:∀x∈xs,0≤x∧x≤255):byt (strOfNums xs)=xs:=by
 unfold byt strOfNums;simp only [List.map_map]
 refine (List.map_congr_left fun x hx=>?_).trans (List.map_id xs)
 have:=h x hx;simp;omega
theorem told_rng {Q:Type} {B:Q→Int→List Int} {M:Q→Int→Q} {I:Q→Prop} (h:∀q c,I q→0≤c→isB c=true→(∀x∈B q c,0≤x∧x≤255)∧I (M q c)):∀(l:List Int) (q:Q),I q→(∀x∈l,0≤x∧isB x=true)→∀x∈told B M q l,0≤x∧x≤255
 |[],q,_,_,x,hx=>by cases hx
 |c::l,q,hq,hs,x,hx=>by
  have h1:=h q c hq (hs c List.mem_cons_self).1 (hs c List.mem_cons_self).2;simp only [told,List.mem_append] at hx;rcases hx with hx|hx
  ·exact h1.1 x hx
  ·exact told_rng h l (M q c) h1.2 (fun y hy=>hs y (List.mem_cons_of_mem _ hy)) x hx
end Dcd
namespace Pux
open Go.RowKit Win Stp Mach Dec Lst Out Dcd
abbrev PD:TypeId:=204
def q1 (n:Nat):B4:={Dec.b40 with at_:=(n:Int)}
def TxAt (w:World) (B:Nat) (tv:Value) (S:List Int):Prop:=w.ownsRow B 5 1 tv S.length (u8s S)∧(S=[]→tv= .slice none 0 0)
def PdRel (w:World) (g:Nat) (S:List Int) (v8:Value) (wr:World):Prop:=
 ∃(k:Nat) (tv:Value),k≤S.length∧v8= .int .i64 k∧InAt PD wr g 0 nilS (q1 k) [] [tv]∧wr.ownsRow w.heap.size 5 1 tv k (u8s (S.take k))∧(k=0→tv= .slice none 0 0)∧Chg (IS g nilS) w wr
def PdPost (w:World) (g:Nat) (S:List Int) (e:Ending) (w':World):Prop:=
 ∃tv,e= .returned (.tuple #[.int .i64 S.length,.slice none 0 0])∧InAt PD w' g 0 nilS (q1 S.length) [] [tv]∧TxAt w' w.heap.size tv S∧Chg (IS g nilS) w w'
set_option maxHeartbeats 4000000 in
set_option maxRecDepth 1000000 in
theorem pdfeed_calls {w:World} {g:Nat} {S:List Int} (h:InAt PD w g 0 nilS Dec.b40 [] [.slice none 0 0]) (hl:S.length≤4000) (hs:∀x∈S,0≤x∧x≤127):
  Calls Tryz.prog 252 #[.pointer (some ⟨g,0,none⟩),.string (strOfNums S),.int .i64 4096] w (PdPost w g S):=by
 obtain ⟨i0,hi,hz0,hz1,hz2⟩:=info_parts info_u8;have HN:Hid (i0.zero=some (.int .u8 0)∧i0.size=1∧i0.bytes=1∧Tryz.prog.info? 5=some i0):=⟨hz0,hz1,hz2,hi⟩
 have hby:=byt_nums (xs:=S) (fun x hx=>by have:=hs x hx;omega)
 have hsz:=str_size S;have hat:∀j,(hj:j<(strOfNums S).size)→((strOfNums S)[j].toNat:Int)=S.getD j 0:=fun j hj=>by rw [←Dec.byt_at _ j hj,hby]
 generalize strOfNums S=s at hsz hat ⊢;have H:=Lib.hid h;have HAt:=Lib.hid hat;have HS:=Lib.hid hs;have hgw:g<w.heap.size:=h.lt;clear hz0 hz1 hz2 hi h hat hs hby;go_enter Tryz.func252,Tryz.ntmps252;go_wp2_with fail;go_loopw [8] (fun v8 wr=>PdRel w g S v8 wr) (fun v8 _=>S.length-(intOf v8).toNat)
 case atStart=>exact ⟨0,_,Nat.zero_le _,rfl,H.out,World.ownsRow_nil _ _ _ _,fun _=>rfl,Chg.refl _⟩
 case round=>
  obtain ⟨k,tv,hk,rfl,ho,hown,hnil,hc⟩:=hrel;have HO:=Lib.hid ho;have HOwn:=Lib.hid hown;have HC:=Lib.hid hc;have HNil:=Lib.hid hnil;have hgoing:=going_calls g _ wr ho.base;have hge:(q1 k).going=true:=rfl;rw [hge] at hgoing;have HGg:=Lib.hid hgoing;have h4:=ho.c4;have f4:=ho.fz 4;clear ho hown hc hgoing hge hnil
  by_cases hlt:k<S.length
  ·have hks:k<s.size:=by omega
   have hx:=HAt.out k hks;have hrx:=HS.out (S.getD k 0) (by rw [List.getD_eq_getElem?_getD,List.getElem?_eq_getElem hlt];exact List.getElem_mem _)
   have htk:S.take (k+1)=S.take k++[S.getD k 0]:=by rw [List.take_succ_eq_append_getElem hlt,List.getD_eq_getElem?_getD,List.getElem?_eq_getElem hlt];rfl
   rw [←hx] at hrx htk;obtain ⟨x0,x1⟩:=hrx;have hx128:¬(128≤(s[k].toNat:Int)):=by omega
   have HTk:=Lib.hid htk;have hrg:tv.ownBlock≠some g:=fun e=>by
    have:=(HOwn.out.lt g e).1;omega
   have HRg:=Lib.hid hrg;have q5:wr.cell? ⟨g,5,none⟩=some tv:=HO.out.cell 0;have qz:=HO.out.fz 5;have qlt:=HO.out.lt;have hbw:w.heap.size≤wr.heap.size:=HC.out.size;clear htk hrg hx;obtain ⟨A,c,rfl⟩:=owns_form HOwn.out;go_wp2_with fail;refine HGg.out.mono ?_;rintro e w2 ⟨rfl,rfl⟩
   have qb:Below wr.heap.size wr (wr.alloc (.cells #[.int .u8 (s[k].toNat:Int)] 5)).drew:=((Below.refl wr.heap.size wr).alloc (Nat.le_refl _) _).drew;have QB:=Lib.hid qb;clear qb;go_wp2_with fail;go_region_law (refine step_append_lies (wr.alloc (.cells #[.int .u8 (s[k].toNat:Int)] 5)).drew rfl (.tmp 37) (.tmp 41) 68 rfl w.heap.size 5 i0 (.int .u8 0) 1 1 Tryz.underlying68 HN.out.2.2.2 HN.out.1 HN.out.2.1 HN.out.2.2.1 rfl (by decide) _ _ _ rfl (HOwn.out.alloc (.cells #[.int .u8 (s[k].toNat:Int)] 5)) ⟨wr.heap.size,0,none⟩ 1 1 [.int .u8 (s[k].toNat:Int)] rfl rfl ?c1 ?c2 (by decide) ?c3 ?c4 ?c5 _ rfl ?_;(case c1=>exact World.news_of_block (w:=(wr.alloc (.cells #[.int .u8 (s[k].toNat:Int)] 5)).drew) (heap_alloc_new wr _));(case c2=>intro q hq;simp at hq;subst hq;rfl);(case c3=>unfold maxLen;omega);(case c4=>omega);(case c5=>exact Nat.le_trans hbw QB.out.size);intro r c1 w1 hown1 hgrow1 hat1 hlt1;have HOut1:=Lib.hid (HO.out.keep (Nat.le_trans QB.out.size hgrow1.size) ((hgrow1.block g (Nat.lt_of_lt_of_le HO.out.lt QB.out.size) (fun e=>HRg.out e.symm)).trans (QB.out.block g HO.out.lt)) (fun k hk=>by simp [Value.ownBlock] at hk));have hcs1:w1.cell? ⟨g,5,none⟩=_:=HOut1.out.cell 0;have hfs1:=HOut1.out.fz 5;have HO1:=Lib.hid hown1;have HG1:=Lib.hid hgrow1;clear hown1 hgrow1 hat1 hlt1)
   all_goals
    have hset:=HOut1.out.setR 0 (.slice (some ⟨r,0,none⟩) (k+1) c1)
    have hcs:Chg (IS g nilS) w (w1.setCell ⟨g,5,none⟩ (.slice (some ⟨r,0,none⟩) (k+1) c1)):=((chg_then (HC.out.trans (Chg.of_below (S:=IS g nilS) QB.out)) (chg_grown HG1.out) (fun i hi e=>absurd (HOwn.out.lt i e).1 (by omega))).trans (is_g 5 _))
    have hea:=eat_calls g _ 1 _ hset.base rfl (by decide) (by decide) (show (0:Int)≤(k:Int) by omega) (show (k:Int)≤1000000000 by omega)
    have hown2:(w1.setCell ⟨g,5,none⟩ (.slice (some ⟨r,0,none⟩) (k+1) c1)).ownsRow w.heap.size 5 1 (.slice (some ⟨r,0,none⟩) (k+1) c1) (k+1) (u8s (S.take k)++[.int .u8 (s[k].toNat:Int)]):=Dcd.own_chg HO1.out (is_g (g:=g) (v:=nilS) 5 _) (fun j hj=>by rcases hj with hj|hj;(omega);(simp [Value.ownBlock] at hj))
    have HSet:=Lib.hid hset;have HCs:=Lib.hid hcs;have HEa:=Lib.hid hea;have HOw2:=Lib.hid hown2;clear hset hcs hea hown2;generalize w1.setCell ⟨g,5,none⟩ (.slice (some ⟨r,0,none⟩) (k+1) c1)=w2 at HSet HCs HEa HOw2 ⊢;go_wp2_with fail;refine HEa.out.mono ?_;rintro e w3 ⟨rfl,rfl⟩
    have hO3:InAt PD (w2.setCell ⟨g,0,none⟩ (.int .i64 ((k:Int)+1))) g 0 nilS (q1 (k+1)) [] [.slice (some ⟨r,0,none⟩) (k+1) c1]:=HSet.out.set 0 (.int .i64 ((k:Int)+1)) (by simp [inCells,q1])
    have hown3:=Dcd.own_chg HOw2.out (is_g (g:=g) (v:=nilS) 0 (.int .i64 ((k:Int)+1))) (fun j hj=>by rcases hj with hj|hj;(omega);(simp [Value.ownBlock] at hj))
    have hC3:=HCs.out.trans (is_g (g:=g) (v:=nilS) 0 (.int .i64 ((k:Int)+1)))
    have HO3:=Lib.hid hO3;have HOw3:=Lib.hid hown3;have HC3:=Lib.hid hC3;clear hO3 hown3 hC3;rw [show (q1 k).at_+1=(k:Int)+1 from rfl]
    generalize w2.setCell ⟨g,0,none⟩ (.int .i64 ((k:Int)+1))=w3 at HO3 HOw3 HC3 ⊢;go_wp2_with fail;go_roundw
    case rel=>
     refine ⟨k+1,_,hlt,by go_num,HO3.out,?_,fun h=>absurd h (by omega),HC3.out⟩
     rw [HTk.out]
     have e:u8s (S.take k++[(s[k].toNat:Int)])=u8s (S.take k)++[.int .u8 (s[k].toNat:Int)]:=by unfold u8s;rw [List.map_append];rfl
     rw [e]
     exact HOw3.out
    case measure=>simp [intOf];omega
  ·obtain rfl:k=S.length:=by omega
   have hown:=HOwn.out;rw [List.take_length] at hown;have HOw:=Lib.hid hown;have HT:=Lib.hid (tell_none g 4 4096 wr h4 f4)
   have hno:¬((S.length:Int)<(s.size:Int)):=by omega
   clear hown h4 f4;go_wp2_with fail;refine HT.out.mono ?_;rintro e w2 ⟨rfl,rfl⟩
   go_wp2_with fail;go_ret2;refine ⟨tv,rfl,HO.out.told (Below.refl _ _) nilS,⟨?_,fun h=>HNil.out (by rw [h];rfl)⟩,?_⟩
   ·refine Dcd.own_chg HOw.out ((is_g (g:=g) (v:=nilS) 4 nilS).trans (is_g 4 nilS)) (fun j hj=>?_)
    rcases hj with hj|hj
    ·omega
    ·simp [Value.ownBlock] at hj
   ·exact chg_then HC.out ((is_g (v:=nilS) 4 _).trans (is_g 4 _)) (fun i _ hi=>hi)
end Pux
namespace Pun
open Go.RowKit Go.Lib Win Stp Lst Out
def ins (l:List Int) (i:Nat) (x:Int):List Int:=l.take i++x::l.drop i
theorem ins_len {l:List Int} {i:Nat} {x:Int} (h:i≤l.length):(ins l i x).length=l.length+1:=by
 unfold ins;rw [List.length_append,List.length_cons,List.length_take,List.length_drop]
 omega
theorem ins_at {l:List Int} {i j:Nat} {x:Int} (h:i≤l.length):(u32s (ins l i x))[j]? =if j<i then (u32s l)[j]? else if j=i then some (.int .u32 x) else (u32s l)[j-1]? :=by
 unfold ins u32s;rw [List.map_append,List.map_cons]
 have hl:((l.take i).map fun x=>Value.int .u32 x).length=i:=by rw [List.length_map,List.length_take];omega
 by_cases h1:j<i
 ·rw [if_pos h1,List.getElem?_append_left (by omega),List.getElem?_map,List.getElem?_map,List.getElem?_take,if_pos h1]
 ·rw [if_neg h1,List.getElem?_append_right (by omega),hl]
  by_cases h2:j=i
  ·subst h2
   simp
  ·rw [if_neg h2,show j-i=(j-i-1)+1 by omega,List.getElem?_cons_succ,List.getElem?_map,List.getElem?_map,List.getElem?_drop,show i+(j-i-1)=j-1 by omega]
theorem cells_block (g:Nat):∀(vs:List Value) (o:Nat) (w:World) (cur:Array Value) (t:TypeId) (fz:Nat×Nat),w.heap[g]? =some (.cells cur t fz)→∃cur',(w.setCells g o vs).heap[g]? =some (.cells cur' t fz)∧cur'.size=cur.size
 |[],o,w,cur,t,fz,h=>⟨cur,h,rfl⟩
 |v::r,o,w,cur,t,fz,h=>by
  rw [World.setCells]
  have h2:(w.setCell ⟨g,o,none⟩ v).heap[g]? =some (.cells (cur.setIfInBounds o v) t fz):=by simp [World.setCell,Array.getElem?_modify,h]
  obtain ⟨cur',a,b⟩:=cells_block g r (o+1) _ _ t fz h2;exact ⟨cur',a,by rw [b];simp⟩
theorem chg_cells (g:Nat):∀(vs:List Value) (o:Nat) (w:World),Chg (fun i=>i=g) w (w.setCells g o vs)
 |[],o,w=>Chg.refl _
 |v::r,o,w=>by
  rw [World.setCells]
  exact (Chg.set (S:=fun i=>i=g) w rfl o v).trans (chg_cells g r (o+1) _)
theorem own_of_cells {w:World} {base g n cap:Nat} {cur:Array Value} {xs:List Int} (hb:base≤g) (hg:w.heap[g]? =some (.cells cur 31 (0,0))) (hn:n≤cap) (hc:cap≤maxLen) (hs:cur.size=cap) (hx:xs.length=n)
  (hcell:∀j v,(u32s xs)[j]? =some v→w.cell? ⟨g,j,none⟩=some v):w.ownsRow base 31 1 (.slice (some ⟨g,0,none⟩) n cap) n (u32s xs):=by
 refine ⟨by rw [u32s_length];omega,.inr ⟨g,cap,cur,rfl,hb,hg,hn,hc,by omega,?_⟩⟩
 apply List.ext_getElem?;intro j;rw [List.getElem?_take]
 by_cases hj:j<n
 ·rw [if_pos (by omega)]
  have hlt:j<(u32s xs).length:=by rw [u32s_length];omega
  have h:=hcell j _ (List.getElem?_eq_getElem hlt)
  rw [cell_of hg] at h;rw [List.getElem?_eq_getElem hlt,←h]
  simp
 ·rw [if_neg (by omega),List.getElem?_eq_none (by rw [u32s_length];omega)]
theorem ov_fun (w:World) (vb b la ca lb cb o:Nat) (hvb:vb≠b) (tA tB:TypeId) (kA kB:Nat) (hsa:w.shape? vb=some (tA,kA)) (hsb:w.shape? b=some (tB,kB)) (hkB:kB≠0) (hfa:w.frozen? ⟨vb,0,none⟩=false) (hfe:w.frozen? ⟨vb,kA,none⟩=false):
  (callFunc 259 #[.slice (some ⟨vb,0,none⟩) la ca,.slice (some ⟨b,o,none⟩) lb cb]).run Tryz.prog w= .ok (.value (.bool false)) w:=by
 rw [run_callFunc_extern Tryz.func259 (by kernel_rfl) (by kernel_rfl) (by kernel_rfl) (e:=Extern.SlicesOverlaps.overlaps #[24,24] #[4]) (by kernel_rfl),
  Lib.run_overlaps_apart w 24 4 31 Tryz.underlying24 1 (fun w=>by kernel_rfl) ⟨vb,0,none⟩ ⟨b,o,none⟩ la ca lb cb hvb tA tB kA kB hsa hsb hkB hfa hfe]
 rfl
set_option maxHeartbeats 4000000 in
set_option maxRecDepth 100000 in
theorem insert_shift (b n c i vb vc:Nat) (x:Int) (cs:List Value) (w:World) (hi:i<n) (hroom:n+1≤c) (hc63:c≤9223372036854775807) (hvb:vb≠b) (hcl:cs.length=n)
  (hcs:∀j v,cs[j]? =some v→w.cell? ⟨b,j,none⟩=some v) (hsp:∀j,j<n+1→(w.cell? ⟨b,j,none⟩).isSome=true) (hfz:∀j,w.frozen? ⟨b,j,none⟩=false)
  (hvs:w.cell? ⟨vb,0,none⟩=some (.int .u32 x)) (h1c:∀v∈cs,v.oneCell'=true)
  (tA tB:TypeId) (kA kB:Nat) (hsa:w.shape? vb=some (tA,kA)) (hsb:w.shape? b=some (tB,kB)) (hkB:kB≠0) (hfa:w.frozen? ⟨vb,0,none⟩=false) (hfe:w.frozen? ⟨vb,kA,none⟩=false):
  Calls Tryz.prog 256 #[.slice (some ⟨b,0,none⟩) n c,.int .i64 i,.slice (some ⟨vb,0,none⟩) 1 vc] w fun e w'=>
   e= .returned (.slice (some ⟨b,0,none⟩) (n+1) c)∧w'=(w.drew.setCells b (i+1) (cs.drop i)).setCells b i [.int .u32 x]:=by
 have hz2:¬((i:Int)=(n:Int)):=by omega
 have hsz:(Tryz.prog.info? 31).map (·.size)=some 1:=by kernel_rfl
 have hov:∀lb cb,(callFunc 259 #[.slice (some ⟨vb,0,none⟩) 1 vc,.slice (some ⟨b,i+1,none⟩) lb cb]).run Tryz.prog w= .ok (.value (.bool false)) w:=fun lb cb=>ov_fun w vb b 1 vc lb cb (i+1) hvb tA tB kA kB hsa hsb hkB hfa hfe
 have hdl:(cs.drop i).length=n-i:=by rw [List.length_drop,hcl]
 have mixed:Tryz.prog.follows .mixedOrders=true:=by kernel_rfl
 have hw1:IntKind.i64.wrap ((i:Int)+1)=(i:Int)+1:=by rw [IntKind.wrap_i64];omega
 have hb1:(0:Int)≤(i:Int)+1:=by omega
 have hin:i≤n:=by omega
 have htn:((i:Int)+1).toNat=i+1:=by omega
 have hb2:¬(c=i+1):=by omega
 have hb3:(i:Int)≤(n:Int)+1:=by omega
 have hb4:¬(c=i):=by omega
 have hcp1:∀ty dc sc,(Builtin.copy_ #[24,24] ty #[.slice (some ⟨b,i+1,none⟩) (n-i) dc,.slice (some ⟨b,i,none⟩) (n+1-i) sc]).run Tryz.prog w.drew= .ok (goInt (cs.drop i).length) (w.drew.setCells b (i+1) (cs.drop i)):=fun ty dc sc=>
  run_copy_cells w.drew _ _ ty 31 b (i+1) (n-i) dc ⟨b,i,none⟩ (n+1-i) sc (cs.drop i) Tryz.underlying24 hsz (by rw [hdl];simp only [Nat.min_def];split <;>omega)
   (fun j v hj=>by rw [Addr.add_lit];exact hcs (i+j) v (by rwa [List.getElem?_drop] at hj))
   (fun j hj=>hsp _ (by omega)) (fun j hj=>hfz _) (fun v hv=>h1c v (List.mem_of_mem_drop hv))
 obtain ⟨W1,hW1⟩:∃W1,W1=w.drew.setCells b (i+1) (cs.drop i):=⟨_,rfl⟩
 have hsp1:∀k,k<n+1→(W1.cell? ⟨b,k,none⟩).isSome=true:=fun k hk=>by
  rw [hW1]
  exact isSome_setCells b (cs.drop i) (i+1) w.drew (fun j hj=>hsp (i+1+j) (by rw [hdl] at hj;omega)) k (hsp k hk)
 have hcp2:∀(W:World),(∀x,W.cell? x=W1.cell? x)→(∀x,W.frozen? x=W1.frozen? x)→∀ty dc,(Builtin.copy_ #[24,24] ty #[.slice (some ⟨b,i,none⟩) (n+1-i) dc,.slice (some ⟨vb,0,none⟩) 1 vc]).run Tryz.prog W= .ok (goInt 1) (W.setCells b i [.int .u32 x]):=fun W hWc hWf ty dc=>
  run_copy_cells W _ _ ty 31 b i (n+1-i) dc ⟨vb,0,none⟩ 1 vc [.int .u32 x] Tryz.underlying24 hsz (by simp only [List.length_singleton,Nat.min_def];split <;>omega)
   (fun j v hj=>by
    rw [Addr.add_lit,hWc,hW1,World.cell?_setCells_out b _ _ _ _ (fun h _=>absurd h hvb)]
    cases j with
    |zero=>simp at hj;subst hj;exact hvs
    |succ j=>simp at hj)
   (fun j hj=>by
    obtain rfl:j=0:=by simpa using hj
    rw [hWc];exact hsp1 _ (by omega)) (fun j hj=>by rw [hWf,hW1,World.frozen?_setCells];exact hfz _) (fun v hv=>by rw [List.mem_singleton.1 hv];rfl)
 rw [←hW1] at hcp1;clear hcs hsp hfz hvs h1c hsa hsb hfa hfe hsp1 hdl;go_enter Tryz.func256,Tryz.ntmps256;go_wp2_with (simp only [hov])
 go_region_law_o (refine step_copy_runI rfl _ _ 24 24 rfl _ _ (by simp [Act.eval,Act.put]) (by simp [Act.eval,Act.put]) (hcp1 _ _ _) ?_)
 go_wp2_with (at_builtin;refine wpList_copy_runI _ rfl _ _ 24 24 rfl _ _ rfl rfl (hcp2 _ (fun _=>rfl) (fun _=>rfl) _ _) ?_)
 go_ret
 first|exact ⟨rfl,rfl⟩|exact ⟨rfl,by rw [hW1]⟩
def insCells (w:World) (n c i:Nat) (cs:List Value):Array Value:=(cs.take i).toArray++Builtin.zeroCells (Value.int .u32 0).cells (n+1-i)++Builtin.zeroCells (Value.int .u32 0).cells (grownCap w (n+1) c 31-(n+1))
set_option maxHeartbeats 4000000 in
set_option maxRecDepth 100000 in
theorem insert_grow (b n c i vb vc:Nat) (x:Int) (cs:List Value) (w:World) (hi:i<n) (hnc:n≤c) (hroom:c<n+1) (hbig:(n+1)*4≤140737488355328) (hcl:cs.length=n)
  (hcs:∀j v,cs[j]? =some v→w.cell? ⟨b,j,none⟩=some v) (hvs:w.cell? ⟨vb,0,none⟩=some (.int .u32 x)) (h1c:∀v∈cs,v.oneCell'=true):
  Calls Tryz.prog 256 #[.slice (some ⟨b,0,none⟩) n c,.int .i64 i,.slice (some ⟨vb,0,none⟩) 1 vc] w fun e w'=>
   e= .returned (.slice (some ⟨w.heap.size,0,none⟩) (n+1) (grownCap w (n+1) c 31))∧w'=(((w.alloc (.cells (insCells w n c i cs) 31)).drew.setCells w.heap.size i [.int .u32 x]).drew).setCells w.heap.size (i+1) (cs.drop i):=by
 obtain ⟨i0,hi0,hz0,hzs,hzb⟩:=info_parts info_u32;have hz2:¬((i:Int)=(n:Int)):=by omega
 have hz3:(c:Int)<(n:Int)+1:=by omega
 have hsz:(Tryz.prog.info? 31).map (·.size)=some 1:=by kernel_rfl
 have mixed:Tryz.prog.follows .mixedOrders=true:=by kernel_rfl
 have hbw:b<w.heap.size:=block_lt_of_cell (hcs 0 _ (List.getElem?_eq_getElem (by omega)))
 have hvw:vb<w.heap.size:=block_lt_of_cell hvs;have hkk:(n:Int)+1-(i:Int)=((n+1-i:Nat):Int):=by omega
 have hik:i+(n+1-i)=n+1:=by omega
 have hold:(Builtin.firstCells i0.size i (.slice (some ⟨b,0,none⟩) i c)).run Tryz.prog w.drew= .ok (cs.take i).toArray w.drew:=by
  rw [hzs]
  exact run_firstCells_some w.drew 1 i ⟨b,0,none⟩ i c (cs.take i) (by rw [List.length_take];omega) (fun j v hj=>by
   rw [Addr.add_lit,Nat.zero_add]
   rw [List.getElem?_take] at hj
   split at hj
   ·exact hcs j v hj
   ·cases hj)
 have hrz:∀ty,(Builtin.append_ #[24,3] ty #[.slice (some ⟨b,0,none⟩) i c,.int .i64 ((n:Int)+1-(i:Int))]).run Tryz.prog w=
   .ok (.slice (some ⟨w.heap.size,0,none⟩) (n+1) (grownCap w (n+1) c 31)) (w.drew.alloc (.cells (insCells w n c i cs) 31)):=fun ty=>by
  have h:=Lib.run_append_grow_zeros w 24 3 ty 31 i0 _ .i64 .i64 Tryz.underlying24 Tryz.underlying3 hi0 hz0 (some ⟨b,0,none⟩) i c (cs.take i) hold (n+1-i) (by omega) (by omega) (by omega) (by omega) (by rw [hzb];omega) (by rw [hzb,hik];exact growslice_fits hroom hbig)
  rw [hik] at h;rw [hkk]
  exact h
 obtain ⟨ROW,hROW⟩:∃ROW:Array Value,ROW=insCells w n c i cs:=⟨_,rfl⟩
 have hRl:n+1≤ROW.size:=by
  rw [hROW]
  unfold insCells;simp [Builtin.zeroCells,Value.cells]
  omega
 obtain ⟨G,hG⟩:∃G,G=grownCap w (n+1) c 31:=⟨_,rfl⟩
 rw [←hG] at hrz ⊢;rw [←hROW] at hrz ⊢;obtain ⟨W1,hW1⟩:∃W1,W1=w.drew.alloc (.cells ROW 31):=⟨_,rfl⟩
 rw [←hW1] at hrz;have hN:∀j,j<n+1→(W1.cell? ⟨w.heap.size,j,none⟩).isSome=true:=fun j hj=>by
  rw [hW1,World.cell?_alloc_at (w:=w.drew) ROW _ w.heap.size j rfl,Array.getElem?_eq_getElem (by omega)];rfl
 have hNf:∀j,W1.frozen? ⟨w.heap.size,j,none⟩=false:=fun j=>by rw [hW1];exact World.frozen?_alloc_at (w:=w.drew) ROW _ w.heap.size j rfl
 have hOb:∀j v,w.cell? ⟨b,j,none⟩=some v→W1.cell? ⟨b,j,none⟩=some v:=fun j v h=>by rw [hW1,World.cell?_alloc_past (w:=w.drew) _ b j hbw];exact h
 have hOv:∀j v,w.cell? ⟨vb,j,none⟩=some v→W1.cell? ⟨vb,j,none⟩=some v:=fun j v h=>by rw [hW1,World.cell?_alloc_past (w:=w.drew) _ vb j hvw];exact h
 have hcpA:∀(W:World),(∀x,W.cell? x=W1.cell? x)→(∀x,W.frozen? x=W1.frozen? x)→∀ty dc,(Builtin.copy_ #[24,24] ty #[.slice (some ⟨w.heap.size,i,none⟩) (n+1-i) dc,.slice (some ⟨vb,0,none⟩) 1 vc]).run Tryz.prog W= .ok (goInt 1) (W.setCells w.heap.size i [.int .u32 x]):=fun W hWc hWf ty dc=>
  run_copy_cells W _ _ ty 31 w.heap.size i (n+1-i) dc ⟨vb,0,none⟩ 1 vc [.int .u32 x] Tryz.underlying24 hsz (by simp only [List.length_singleton,Nat.min_def];split <;>omega)
   (fun j v hj=>by
    rw [Addr.add_lit,hWc]
    cases j with
    |zero=>simp at hj;subst hj;exact hOv _ _ hvs
    |succ j=>simp at hj)
   (fun j hj=>by
    obtain rfl:j=0:=by simpa using hj
    rw [hWc];exact hN _ (by omega)) (fun j hj=>by rw [hWf];exact hNf _) (fun v hv=>by rw [List.mem_singleton.1 hv];rfl)
 have hGn:n+1≤G:=by rw [hG];exact grownCap_ge w _ _ _
 have hG63:G≤9223372036854775807:=by
  have:=grownCap_le_maxLen w (n+1) c 31 (by unfold maxLen;omega)
  rw [←hG] at this;unfold maxLen at this;omega
 have hGi:¬(G=i):=by omega
 have hGim:¬(G=i+1):=by omega
 have hci:¬(c=i):=by omega
 have hbN:b≠w.heap.size:=by omega
 have hdl:(cs.drop i).length=n-i:=by rw [List.length_drop,hcl]
 have hcpB:∀(W:World),(∀y,W.cell? y=(W1.setCells w.heap.size i [.int .u32 x]).cell? y)→(∀y,W.frozen? y=(W1.setCells w.heap.size i [.int .u32 x]).frozen? y)→∀ty dc sc,(Builtin.copy_ #[24,24] ty #[.slice (some ⟨w.heap.size,i+1,none⟩) (n-i) dc,.slice (some ⟨b,i,none⟩) (n-i) sc]).run Tryz.prog W= .ok (goInt (cs.drop i).length) (W.setCells w.heap.size (i+1) (cs.drop i)):=fun W hWc hWf ty dc sc=>
  run_copy_cells W _ _ ty 31 w.heap.size (i+1) (n-i) dc ⟨b,i,none⟩ (n-i) sc (cs.drop i) Tryz.underlying24 hsz (by rw [hdl];simp only [Nat.min_def];split <;>omega)
   (fun j v hj=>by
    rw [Addr.add_lit,hWc,World.cell?_setCells_out _ _ _ _ _ (fun h _=>absurd h hbN)]
    exact hOb _ v (hcs (i+j) v (by rwa [List.getElem?_drop] at hj)))
   (fun j hj=>by rw [hWc];exact isSome_setCells w.heap.size [.int .u32 x] i W1 (fun t ht=>hN (i+t) (by simp at ht;omega)) (i+1+j) (hN (i+1+j) (by rw [hdl] at hj;omega)))
   (fun j hj=>by rw [hWf,World.frozen?_setCells];exact hNf _) (fun v hv=>h1c v (List.mem_of_mem_drop hv))
 subst hW1;have hE1:∀x,((w.alloc (.cells ROW 31)).drew).cell? x=(w.drew.alloc (.cells ROW 31)).cell? x:=fun x=>rfl
 have hE2:∀x,((w.alloc (.cells ROW 31)).drew).frozen? x=(w.drew.alloc (.cells ROW 31)).frozen? x:=fun x=>rfl
 have hF1:∀y,(((w.alloc (.cells ROW 31)).drew.setCells w.heap.size i [.int .u32 x]).drew).cell? y=((w.drew.alloc (.cells ROW 31)).setCells w.heap.size i [.int .u32 x]).cell? y:=fun x=>rfl
 have hF2:∀y,(((w.alloc (.cells ROW 31)).drew.setCells w.heap.size i [.int .u32 x]).drew).frozen? y=((w.drew.alloc (.cells ROW 31)).setCells w.heap.size i [.int .u32 x]).frozen? y:=fun x=>rfl
 have hw1:IntKind.i64.wrap ((i:Int)+1)=(i:Int)+1:=by rw [IntKind.wrap_i64];omega
 have hb1:(0:Int)≤(i:Int)+1:=by omega
 have hin:i≤n:=by omega
 have htn:((i:Int)+1).toNat=i+1:=by omega
 have hb3:(i:Int)≤(n:Int):=by omega
 clear hkk hik hold hROW hG hRl hcs hvs h1c hOb hOv hN hNf hdl;go_enter Tryz.func256,Tryz.ntmps256;go_wp2_with (first
  |(at_builtin;refine Lib.wpList_append_run _ rfl _ _ _ _ rfl _ _ rfl rfl _ _ (hrz _) ?_)
  |(at_builtin;refine wpList_copy_runI _ rfl _ _ 24 24 rfl _ _ rfl rfl (hcpA _ hE1 hE2 _ _) ?_)
  |(at_builtin;refine wpList_copy_runI _ rfl _ _ 24 24 rfl _ _ rfl rfl (hcpB _ (fun _=>rfl) (fun _=>rfl) _ _ _) ?_))
 go_region_law_o (refine step_copy_runI rfl _ _ 24 24 rfl (.slice (some ⟨w.heap.size,i+1,none⟩) (n-i) (G-(i+1))) (.slice (some ⟨b,i,none⟩) (n-i) (c-i)) (by simp [Act.eval,Act.put]) (by simp [Act.eval,Act.put]) (hcpB _ hF1 hF2 3 (G-(i+1)) (c-i)) ?_)
 go_wp2;go_ret;exact ⟨rfl,rfl⟩
def InsPost (w:World) (base:Nat) (v:Value) (l:List Int) (i:Nat) (x:Int) (e:Ending) (w':World):Prop:=
 ∃A c,e= .returned (.slice A (l.length+1) c)∧w'.ownsRow base 31 1 (.slice A (l.length+1) c) (l.length+1) (u32s (ins l i x))∧Chg (fun j=>v.ownBlock=some j) w w'
theorem ins_end (l:List Int) (x:Int):ins l l.length x=l++[x]:=by
 unfold ins;rw [List.take_length,List.drop_length]
theorem u32_one (l:List Int):∀v∈u32s l,v.oneCell'=true:=fun v hv=>by
 unfold u32s at hv;obtain ⟨y,_,rfl⟩:=List.mem_map.1 hv
 rfl
set_option maxHeartbeats 4000000 in
theorem insert_end {w:World} {base vb:Nat} {v:Value} {l:List Int} {x:Int} (h:w.ownsRow base 31 1 v l.length (u32s l)) (hl:l.length≤100000) (hv:w.heap[vb]? =some (.cells #[.int .u32 x] 31 (0,0))) (hb:base≤w.heap.size):
  Calls Tryz.prog 256 #[v,.int .i64 (l.length:Nat),.slice (some ⟨vb,0,none⟩) 1 1] w (InsPost w base v l l.length x):=by
 have hL:Lst w .u32 (some ⟨vb,0,none⟩) [x]:=fun j hj=>by
  obtain rfl:j=0:=by simpa using hj
  refine ⟨_,rfl,?_⟩
  show World.cell? _ ⟨vb,0+0,none⟩=_
  rw [cell_of hv]
  rfl
 have HL:=Lib.hid hL;have HO:=Lib.hid h;have he:=ins_end l x;have HE:=Lib.hid he;rcases h.2 with ⟨hv0,h0⟩|⟨g,cap,cur,hv0,_,hg,hnc,hcm,_,_⟩
 ·subst hv0
  obtain rfl:l=[]:=List.eq_nil_of_length_eq_zero h0;clear h hL he hv;go_enter Tryz.func256,Tryz.ntmps256;go_wp2_with (at_builtin;refine app_lst rfl rfl _ _ rfl base _ ([]:List Int) rfl HO.out _ _ [x] rfl HL.out (fun h=>nomatch h) (by simp <;>omega) hb ?_;intro A' c' w3 h1 h2 h3;have H1:=Lib.hid h1;have H2:=Lib.hid h2;clear h1 h2 h3)
  go_ret;refine ⟨A',c',by simp,?_,chg_grown H2.out⟩
  have h:=H1.out;rw [List.length_append,List.length_singleton] at h;exact h
 ·subst hv0
  have hc63:cap≤9223372036854775807:=by unfold maxLen at hcm;omega
  clear h hL he hv hg hcm;go_enter Tryz.func256,Tryz.ntmps256;go_wp2_with (at_builtin;refine app_lst rfl rfl _ _ rfl base _ l rfl HO.out _ _ [x] rfl HL.out (fun h=>nomatch h) (by simp <;>omega) hb ?_;intro A' c' w3 h1 h2 h3;have H1:=Lib.hid h1;have H2:=Lib.hid h2;clear h1 h2 h3)
  all_goals
   go_ret;refine ⟨A',c',by simp,?_,chg_grown H2.out⟩
   have h:=H1.out;rw [HE.out]
   rw [List.length_append,List.length_singleton] at h;exact h
theorem insert_calls {w:World} {base vb:Nat} {v:Value} {l:List Int} {i:Nat} {x:Int} (h:w.ownsRow base 31 1 v l.length (u32s l)) (hi:i≤l.length) (hl:l.length≤100000) (hv:w.heap[vb]? =some (.cells #[.int .u32 x] 31 (0,0))) (hne:v.ownBlock≠some vb) (hb:base≤w.heap.size):
  Calls Tryz.prog 256 #[v,.int .i64 (i:Nat),.slice (some ⟨vb,0,none⟩) 1 1] w (InsPost w base v l i x):=by
 by_cases he:i=l.length
 ·subst he
  exact insert_end h hl hv hb
 have hlt:i<l.length:=by omega
 have hcells:=fun g=>h.cells (g:=g)
 rcases h.2 with ⟨hv0,h0⟩|⟨g,cap,cur,hv0,hbg,hg,hnc,hcm,hcs,htk⟩
 ·omega
 subst hv0;have hgl:g<w.heap.size:=(Array.getElem?_eq_some_iff.1 hg).1;have hvl:vb<w.heap.size:=(Array.getElem?_eq_some_iff.1 hv).1;have hvg:vb≠g:=fun e=>hne (by rw [e];rfl)
 have hc63:cap≤9223372036854775807:=by unfold maxLen at hcm;omega
 have hcc:∀j u,(u32s l)[j]? =some u→w.cell? ⟨g,j,none⟩=some u:=fun j u hj=>by
  have:=hcells g rfl j u hj
  rwa [Addr.add_lit,Nat.zero_add] at this
 have hvc:w.cell? ⟨vb,0,none⟩=some (.int .u32 x):=by rw [cell_of hv];rfl
 have hul:=u32s_length l;have hdl:((u32s l).drop i).length=l.length-i:=by rw [List.length_drop,hul]
 by_cases hroom:l.length+1≤cap
 ·have hsome:∀j,j<l.length+1→(w.cell? ⟨g,j,none⟩).isSome=true:=fun j hj=>by
   rw [cell_of hg,Array.getElem?_eq_getElem (by omega)];rfl
  refine (insert_shift g l.length cap i vb 1 x (u32s l) w hlt hroom hc63 hvg hul hcc hsome (frozen_of hg) hvc (u32_one l) 31 31 1 cur.size (by simp [World.shape?,hv]) (by simp [World.shape?,hg]) (by omega) (frozen_of hv 0) (frozen_of hv 1)).mono ?_;rintro e w' ⟨rfl,rfl⟩
  obtain ⟨cur1,hg1,hs1⟩:=cells_block g ((u32s l).drop i) (i+1) w.drew cur _ _ hg;obtain ⟨cur2,hg2,hs2⟩:=cells_block g [.int .u32 x] i _ cur1 _ _ hg1;refine ⟨_,cap,rfl,own_of_cells hbg hg2 hroom hcm (by omega) (ins_len hi) (fun j u hj=>?_),?_⟩
  ·rw [ins_at hi] at hj
   by_cases j1:j<i
   ·rw [if_pos j1] at hj
    rw [World.cell?_setCells_out _ _ _ _ _ (fun _ _=> .inl j1),World.cell?_setCells_out _ _ _ _ _ (fun _ _=> .inl (by show j<i+1;omega))]
    exact hcc j u hj
   ·rw [if_neg j1] at hj
    by_cases j2:j=i
    ·subst j2
     rw [if_pos rfl] at hj;have hin:=World.cell?_setCells_in g [.int .u32 x] j (w.drew.setCells g (j+1) ((u32s l).drop j)) (fun t ht=>isSome_setCells g ((u32s l).drop j) (j+1) w.drew (fun s hs=>hsome (j+1+s) (by rw [hdl] at hs;omega)) (j+t) (hsome (j+t) (by simp at ht;omega))) 0 (by simp)
     exact hin.trans hj
    ·rw [if_neg j2] at hj
     have hjl:j-1<(u32s l).length:=(List.getElem?_eq_some_iff.1 hj).1;rw [World.cell?_setCells_out _ _ _ _ _ (fun _ _=> .inr (by show i+1≤j;omega))]
     have hin:=World.cell?_setCells_in g ((u32s l).drop i) (i+1) w.drew (fun s hs=>hsome (i+1+s) (by omega)) (j-(i+1)) (by omega)
     rw [show i+1+(j-(i+1))=j by omega] at hin;rw [hin,←hj,List.getElem_drop,List.getElem?_eq_getElem hjl]
     congr 2
     omega
  ·refine Chg.mono (((Chg.drew w).trans (chg_cells g ((u32s l).drop i) (i+1) w.drew)).trans (chg_cells g [.int .u32 x] i _)) (fun j hj=>?_)
   show Value.ownBlock _=some j
   rw [show j=g from hj]
   rfl
 ·refine (insert_grow g l.length cap i vb 1 x (u32s l) w hlt hnc (by omega) (by omega) hul hcc hvc (u32_one l)).mono ?_
  rintro e w' ⟨rfl,rfl⟩
  have hGn:l.length+1≤grownCap w (l.length+1) cap 31:=grownCap_ge w _ _ _;have hGm:grownCap w (l.length+1) cap 31≤maxLen:=grownCap_le_maxLen w (l.length+1) cap 31 (by unfold maxLen;omega)
  have hsz:(insCells w l.length cap i (u32s l)).size=grownCap w (l.length+1) cap 31:=by
   unfold insCells;simp [Builtin.zeroCells,Value.cells,hul]
   omega
  have hat:∀j,j<i→(insCells w l.length cap i (u32s l))[j]? =(u32s l)[j]? :=fun j hj=>by
   unfold insCells;have hl1:((u32s l).take i).length=i:=by rw [List.length_take];omega
   rw [Array.append_assoc,Array.getElem?_append_left (by simp;omega)]
   simp [hj]
  generalize insCells w l.length cap i (u32s l)=ROW at hsz hat;generalize grownCap w (l.length+1) cap 31=G at hGn hGm hsz;have hg0:(w.alloc (.cells ROW 31)).drew.heap[w.heap.size]? =some (.cells ROW 31 (0,0)):=heap_alloc_new _ _;have hsome:∀j,j<l.length+1→((w.alloc (.cells ROW 31)).drew.cell? ⟨w.heap.size,j,none⟩).isSome=true:=fun j hj=>by
   rw [cell_of hg0,Array.getElem?_eq_getElem (by omega)];rfl
  obtain ⟨cur1,hg1,hs1⟩:=cells_block w.heap.size [.int .u32 x] i _ ROW _ _ hg0;have hg1':((w.alloc (.cells ROW 31)).drew.setCells w.heap.size i [.int .u32 x]).drew.heap[w.heap.size]? =some (.cells cur1 31 (0,0)):=hg1;obtain ⟨cur2,hg2,hs2⟩:=cells_block w.heap.size ((u32s l).drop i) (i+1) _ cur1 _ _ hg1';have hsome1:∀j,j<l.length+1→(((w.alloc (.cells ROW 31)).drew.setCells w.heap.size i [.int .u32 x]).drew.cell? ⟨w.heap.size,j,none⟩).isSome=true:=fun j hj=>isSome_setCells w.heap.size [.int .u32 x] i _ (fun t ht=>hsome (i+t) (by simp at ht;omega)) j (hsome j hj)
  refine ⟨_,G,rfl,own_of_cells hb hg2 hGn hGm (by omega) (ins_len hi) (fun j u hj=>?_),?_⟩
  ·rw [ins_at hi] at hj
   by_cases j1:j<i
   ·rw [if_pos j1] at hj
    rw [World.cell?_setCells_out _ _ _ _ _ (fun _ _=> .inl (by show j<i+1;omega))]
    show World.cell? ((w.alloc (.cells ROW 31)).drew.setCells w.heap.size i [.int .u32 x]) _=_
    rw [World.cell?_setCells_out _ _ _ _ _ (fun _ _=> .inl j1),cell_of hg0,hat j j1]
    exact hj
   ·rw [if_neg j1] at hj
    by_cases j2:j=i
    ·subst j2
     rw [if_pos rfl] at hj;rw [World.cell?_setCells_out _ _ _ _ _ (fun _ _=> .inl (by show j<j+1;omega))]
     have hin:=World.cell?_setCells_in w.heap.size [.int .u32 x] j (w.alloc (.cells ROW 31)).drew (fun t ht=>hsome (j+t) (by simp at ht;omega)) 0 (by simp)
     exact hin.trans hj
    ·rw [if_neg j2] at hj
     have hjl:j-1<(u32s l).length:=(List.getElem?_eq_some_iff.1 hj).1;have hin:=World.cell?_setCells_in w.heap.size ((u32s l).drop i) (i+1) ((w.alloc (.cells ROW 31)).drew.setCells w.heap.size i [.int .u32 x]).drew (fun s hs=>hsome1 (i+1+s) (by omega)) (j-(i+1)) (by omega)
     rw [show i+1+(j-(i+1))=j by omega] at hin;rw [hin,←hj,List.getElem_drop,List.getElem?_eq_getElem hjl]
     congr 2
     omega
  ·refine chg_then (S1:=fun i=>i=w.heap.size) (Chg.alloc w (.cells ROW 31)) (((Chg.drew _).trans (chg_cells w.heap.size [.int .u32 x] i _)).trans ((Chg.drew _).trans (chg_cells w.heap.size ((u32s l).drop i) (i+1) _))) (fun j hj hh=>?_)
   have:j=w.heap.size:=hh;omega
end Pun
end Go.Proofs.YtooiooledeblmaaGreat
