/- Arguments that are rows of rows, of strings, of structs: opened as the print's words read them; no condition beside the reading itself. Lists of numbers in memory; an append of a row; two lists compared. strings.Builder: a string written, the whole told. -/
import Derived.Test.YtooiooledeblmaaGreatZ3
import Derived.Deep.Slices
import Derived.ChangeSame
import Derived.ProofKit
import Derived.Laws.AppendOwnNone
import Derived.Laws.AppendOwn
import Derived.Test.YtooiooledeblmaaGreatShelf
import Derived.Sort.AssemblyPlain
import Derived.Lib.SlicesCompact
import Derived.Deep.AppendLies
set_option linter.unusedVariables false
set_option linter.unusedSimpArgs false
namespace Go.Proofs.YtooiooledeblmaaGreat
namespace Open
open Go.ChangeShapes Go.WideShapes Go.RowKit Go.Proofs.YtooiooledeblmaaGreatW.PrintWords
section
variable {H:Type} {enc:TypeId×Value→H} {P:Program} {W:World} {base:Nat} {spare:Nat→Bool} {held:Bool}
def Opens {α:Type} (enc:TypeId×Value→H) (P:Program) (W:World) (base:Nat) (spare:Nat→Bool) (held:Bool) (d:Kd α) (e:TypeId) (good:α→Prop):Prop:=
 ∀fuel cs x,cs.length=d.sz→DataW.trod enc P W base spare held fuel e cs=some x→∃y,d.K W y cs∧good y
theorem opens_int {k:IntKind} {e:TypeId} (he:P.underlying e=some (.int k)):Opens enc P W base spare held (Kd.int k) e (fun n=>(Lit.int k n).wf=true):=by
 intro fuel cs x _ h;obtain ⟨n,rfl,_,hw⟩:=DataW.trod_int he h;exact ⟨n,rfl,hw⟩
theorem opens_cells {α:Type} {d:Kd α} {e:TypeId} {good:α→Prop} (ho:Opens enc P W base spare held d e good) (hc:P.cellsOf e=d.sz) {a:Addr} {m n:Nat} {D:Nat→DataW H} {Pl:Nat→List MemPlace}
  (h:∀i,i<m→∃cs',W.cells? base (a.add (i*P.cellsOf e)) (P.cellsOf e)=some cs'∧DataW.trod enc P W base spare held n e cs'=some (D i,Pl i)):
  ∀len,len≤m→∃l:List α,l.length=len∧(∀j p,l[j]? =some p→∃c,c.length=d.sz∧d.K W p c∧∀i u,c[i]? =some u→W.cell? (a.add (j*d.sz+i))=some u)∧∀x∈l,good x
 |0,_=>⟨[],rfl,fun j p hj=>by simp at hj,fun x hx=>by cases hx⟩
 |len+1,hl=>by
  obtain ⟨l,h1,h2,h3⟩:=opens_cells ho hc h len (by omega)
  obtain ⟨cs',hcs,ht⟩:=h len (by omega)
  obtain ⟨_,hlen,hcell⟩:=World.cells?_some hcs;obtain ⟨y,hy,hg⟩:=ho _ _ _ (by omega) ht;refine ⟨l++[y],by simp [h1],fun j p hj=>?_,fun x hx=>?_⟩
  ·rcases Nat.lt_or_ge j l.length with hjl|hjl
   ·rw [List.getElem?_append_left hjl] at hj
    exact h2 j p hj
   ·have hjl':j=l.length:=by
     have:=(List.getElem?_eq_some_iff.1 hj).1;simp at this;omega
    subst hjl';have hp:y=p:=by simpa using hj
    subst hp;refine ⟨cs',by omega,hy,fun i u hu=>?_⟩
    have hi:i<cs'.length:=(List.getElem?_eq_some_iff.1 hu).1;have:=hcell i (by omega)
    rw [Deep.add_add,hc] at this;rw [h1,this,hu]
  ·rcases List.mem_append.1 hx with hx|hx
   ·exact h3 x hx
   ·rw [List.mem_singleton.1 hx];exact hg
theorem opens_row {α:Type} {d:Kd α} {t e:TypeId} {good:α→Prop} (ht:P.underlying t=some (.slice e)) (hc:P.cellsOf e=d.sz) (ho:Opens enc P W base spare held d e good) {fuel:Nat} {cs:List Value} {x:DataW H×List MemPlace}
  (h:DataW.trod enc P W base spare held fuel t cs=some x):∃(A:Option Addr) (c:Nat) (l:List α),cs=[.slice A l.length c]∧l.length≤c∧c≤maxLen∧d.C W A l.length l∧∀x∈l,good x:=by
 rcases Deep.open_slice ht h with ⟨rfl,_⟩|⟨a,len,cap,m,n,D,Pl,rfl,hb,hl,hm,hmm,_,hx⟩
 ·exact ⟨none,0,[],rfl,by simp,by simp,⟨rfl,by simp,fun hn=>absurd hn (by simp)⟩,fun x hx=>by cases hx⟩
 ·have hlm:len≤m:=by rw [hmm];split <;>omega
  obtain ⟨l,h1,h2,h3⟩:=opens_cells ho hc hx len hlm;subst h1;exact ⟨some a,cap,l,rfl,hl,hm,⟨rfl,by simp only [maxLen] at hm;omega,fun _=>⟨a,rfl,h2⟩⟩,h3⟩
theorem open_arg {α:Type} {d:Kd α} {t e:TypeId} {good:α→Prop} (ht:P.underlying t=some (.slice e)) (hc:P.cellsOf e=d.sz) (ho:Opens enc P W base spare held d e good) {a:Option Addr} {len cap:Nat} {y:DataW H} {ps:List MemPlace}
  (h:DataW.Trod enc P W base spare held t (.slice a len cap) y ps):∃l:List α,len=l.length∧l.length≤cap∧l.length≤maxLen∧d.C W a l.length l∧∀x∈l,good x:=by
 obtain ⟨fuel,hf⟩:=h;obtain ⟨A,c,l,hcs,h1,h2,h3,h4⟩:=opens_row ht hc ho hf;simp [Value.cells] at hcs;obtain ⟨rfl,rfl,rfl⟩:=hcs;exact ⟨l,rfl,h1,by omega,h3,h4⟩
end
end Open
namespace Lst
open Go.RowKit Win Stp
def Lst (w:World) (k:IntKind) (A:Option Addr) (xs:List Int):Prop:=∀j,j<xs.length→∃a:Addr,A=some a∧w.cell? (a.add j)=some (.int k (xs.getD j 0))
theorem Lst.nil (w:World) (k:IntKind) (A:Option Addr):Lst w k A []:=fun j hj=>absurd hj (Nat.not_lt_zero _)
theorem Lst.below {w w1:World} {k:IntKind} {A:Option Addr} {xs:List Int} (h:Lst w k A xs) (hb:Below w.heap.size w w1):Lst w1 k A xs:=fun j hj=>by
 obtain ⟨a,rfl,hc⟩:=h j hj;exact ⟨a,rfl,(hb.cell (p:=a.add j) (World.block_lt_of_cell? w _ hc)).trans hc⟩
theorem Lst.chg {S:Nat→Prop} {w w1:World} {k:IntKind} {A:Option Addr} {xs:List Int} (h:Lst w k A xs) (hb:Chg S w w1) (hs:∀a,A=some a→¬S a.block):Lst w1 k A xs:=fun j hj=>by
 obtain ⟨a,rfl,hc⟩:=h j hj;refine ⟨a,rfl,?_⟩
 have hlt:=World.block_lt_of_cell? w _ hc;have e:=hb.block (a.add j).block hlt (by have:=hs a rfl;unfold Addr.add;split <;>exact this)
 rw [←hc]
 unfold World.cell?;rw [e]
theorem Lst.take {w:World} {k:IntKind} {A:Option Addr} {xs:List Int} (h:Lst w k A xs) (n:Nat):Lst w k A (xs.take n):=fun j hj=>by
 rw [List.length_take] at hj;obtain ⟨a,rfl,hc⟩:=h j (by omega)
 refine ⟨a,rfl,hc.trans ?_⟩
 rw [List.getD_eq_getElem?_getD,List.getD_eq_getElem?_getD,List.getElem?_take_of_lt (by omega)]
theorem Lst.of_owns {w:World} {base n:Nat} {e:TypeId} {A:Option Addr} {c:Nat} {xs:List Int} (h:w.ownsRow base e 1 (.slice A n c) xs.length (u32s xs)):Lst w .u32 A xs:=fun j hj=>by
 obtain ⟨r,c',hv,_,_⟩:=h.form (by omega)
 injection hv with hA _ _
 subst hA;have hcells:=h.cells (g:=r) rfl;refine ⟨_,rfl,hcells j _ ?_⟩
 unfold u32s;rw [List.getElem?_map,List.getElem?_eq_getElem hj,List.getD_eq_getElem?_getD,List.getElem?_eq_getElem hj]
 rfl
theorem owns_form {w:World} {base n:Nat} {e:TypeId} {size:Nat} {v:Value} {xs:List Value} (h:w.ownsRow base e size v n xs):∃A c,v= .slice A n c:=by
 rcases h.2 with ⟨h1,h2⟩|⟨g',cap,cur,h1,_⟩
 ·exact ⟨none,0,by rw [h1,h2]⟩
 ·exact ⟨_,_,h1⟩
def ord:List Int→List Int→Int
 |[],[]=>0
 |[],_::_=> -1
 |_::_,[]=>1
 |x::xs,y::ys=>if x<y then -1 else if y<x then 1 else ord xs ys
theorem ord_zero:∀xs ys:List Int,ord xs ys=0↔xs=ys
 |[],[]=>by simp [ord]
 |[],_::_=>by simp [ord]
 |_::_,[]=>by simp [ord]
 |x::xs,y::ys=>by
  have ih:=ord_zero xs ys;unfold ord
  split
  ·simp;omega
  ·split
   ·simp;omega
   ·rw [ih];simp;omega
theorem drop_cons {xs:List Int} {k:Nat} (h:k<xs.length):xs.drop k=xs.getD k 0::xs.drop (k+1):=by
 rw [List.drop_eq_getElem_cons h,List.getD_eq_getElem?_getD,List.getElem?_eq_getElem h];rfl
theorem ord_at (xs ys:List Int) (k:Nat) (h1:k<xs.length) (h2:k<ys.length):ord (xs.drop k) (ys.drop k)=if xs.getD k 0<ys.getD k 0 then -1 else if ys.getD k 0<xs.getD k 0 then 1 else ord (xs.drop (k+1)) (ys.drop (k+1)):=by
 rw [drop_cons h1,drop_cons h2];rfl
def Drew (w w':World):Prop:=∃n,w'=w.drewN n
theorem Drew.refl (w:World):Drew w w:=⟨0,rfl⟩
theorem Drew.more {w w':World} (h:Drew w w') (n:Nat):Drew w (w'.drewN n):=by
 obtain ⟨k,rfl⟩:=h;exact ⟨k+n,by simp [World.drewN_drewN]⟩
theorem Drew.below {w w':World} (h:Drew w w') (B:Nat):Below B w w':=by
 obtain ⟨k,rfl⟩:=h;exact below_drewN (Below.refl B w) k
theorem Lst.drew {w w1:World} {k:IntKind} {A:Option Addr} {xs:List Int} (h:Lst w k A xs) (hb:Drew w w1):Lst w1 k A xs:=h.below (hb.below _)
def OrdRel (w:World) (xs ys:List Int) (i:Value) (wr:World):Prop:=∃k:Nat,k≤xs.length∧k≤ys.length∧i= .int .i64 k∧Drew w wr∧ord xs ys=ord (xs.drop k) (ys.drop k)
set_option maxHeartbeats 2000000 in
theorem order_calls {w:World} {A B:Option Addr} {c d:Nat} {xs ys:List Int} (hA:Lst w .u32 A xs) (hB:Lst w .u32 B ys) (hx:xs.length≤1000000) (hy:ys.length≤1000000):
  Calls Tryz.prog 11 #[.slice A xs.length c,.slice B ys.length d] w fun e w'=>e= .returned (.int .i64 (ord xs ys))∧Drew w w':=by
 have HA:=Lib.hid hA;have HB:=Lib.hid hB;clear hA hB;go_enter Tryz.func11,Tryz.ntmps11;go_wp2_with fail;go_loopw [5] (fun i wr=>OrdRel w xs ys i wr) (fun i _=>xs.length-(intOf i).toNat)
 case atStart=>exact ⟨0,Nat.zero_le _,Nat.zero_le _,rfl,Drew.refl _,rfl⟩
 case round=>
  obtain ⟨k,hk1,hk2,rfl,hdr,ho⟩:=hrel;have HD:=Lib.hid hdr;have HO:=Lib.hid ho;clear ho hdr
  by_cases h1:k<xs.length
  ·by_cases h2:k<ys.length
   ·obtain ⟨a,rfl,q1⟩:=(Lst.drew HA.out HD.out) k h1
    obtain ⟨b,rfl,q2⟩:=(Lst.drew HB.out HD.out) k h2;have ho:=HO.out;rw [ord_at xs ys k h1 h2] at ho;generalize xs.getD k 0=x at q1 ho;generalize ys.getD k 0=y at q2 ho;have HP:=Lib.hid ho;clear ho
    by_cases c1:x<y
    ·go_wp2_with fail
     go_quiet (fail)
     go_wp2_with fail;go_ret;refine ⟨?_,HD.out.more _⟩
     rw [HP.out,if_pos c1];rfl
    ·by_cases c2:y<x
     ·go_wp2_with fail
      go_quiet (fail)
      go_wp2_with fail;go_quiet (fail)
      go_wp2_with fail;go_ret;refine ⟨?_,(HD.out.more _).more _⟩
      rw [HP.out,if_neg (by omega),if_pos c2];rfl
     ·go_wp2_with fail
      go_quiet (fail)
      go_wp2_with fail;go_quiet (fail)
      go_wp2_with fail;go_roundw
      case rel=>exact ⟨k+1,h1,h2,by go_num,HD.out.more _,by rw [HP.out,if_neg (by omega),if_neg (by omega)]⟩
      case measure=>simp [intOf];omega
   ·obtain rfl:k=ys.length:=by omega
    go_wp2;go_ret;refine ⟨?_,HD.out⟩
    rw [HO.out,drop_cons h1,List.drop_length];rfl
  ·obtain rfl:k=xs.length:=by omega
   by_cases h2:xs.length<ys.length
   ·go_wp2
    go_ret;refine ⟨?_,HD.out⟩
    rw [HO.out,drop_cons h2,List.drop_length];rfl
   ·have h3:xs.length=ys.length:=by omega
    go_wp2;go_ret;refine ⟨?_,HD.out⟩
    rw [HO.out,List.drop_length,h3,List.drop_length];rfl
theorem same_calls {w:World} {A B:Option Addr} {c d:Nat} {xs ys:List Int} (hA:Lst w .u32 A xs) (hB:Lst w .u32 B ys) (hx:xs.length≤1000000) (hy:ys.length≤1000000):
  Calls Tryz.prog 19 #[.slice A xs.length c,.slice B ys.length d] w fun e w'=>e= .returned (.bool (decide (xs=ys)))∧Drew w w':=by
 have HO:=Lib.hid (order_calls (c:=c) (d:=d) hA hB hx hy)
 clear hA hB;go_enter Tryz.func19,Tryz.ntmps19;go_wp2_with (go_at_call 11;refine HO.out.mono ?_;rintro e w1 ⟨rfl,hd⟩;have HD:=Lib.hid hd;clear hd)
 go_ret;refine ⟨?_,HD.out⟩
 have:(ord xs ys==0)=decide (xs=ys):=by
  rw [Bool.eq_iff_iff]
  simp [ord_zero]
 rw [this]
 rfl
end Lst
namespace Out
open Go.RowKit Win Stp Lst
def BldAt (B b:Nat) (s:ByteArray) (w:World):Prop:=Lib.IsBuilder 70 5 B b (Lib.strCells s) w
abbrev Oth (b:Nat) (w w':World):Prop:=Lib.OthersKept 5 (some b) w w'
theorem own_chg {S:Nat→Prop} {w w':World} {base:Nat} {e:TypeId} {size n:Nat} {v:Value} {xs:List Value} (h:w.ownsRow base e size v n xs) (hc:Chg S w w') (hs:∀k,v.ownBlock=some k→¬S k):w'.ownsRow base e size v n xs:=by
 obtain ⟨a1,a2⟩:=h;refine ⟨a1,?_⟩
 rcases a2 with a2|⟨g',cap,cur,hv,hb,hh,r⟩
 ·exact .inl a2
 ·have hlt:g'<w.heap.size:=(Array.getElem?_eq_some_iff.1 hh).1
  exact .inr ⟨g',cap,cur,hv,hb,(hc.block g' hlt (hs g' (by rw [hv];rfl))).trans hh,r⟩
theorem bld_new (B:Nat) (w:World) (hB:B≤w.heap.size):BldAt B w.heap.size ByteArray.empty (w.alloc (.cells #[.pointer none,.slice none 0 0] 70)):=by
 refine .inl ⟨hB,.slice none 0 0,heap_alloc_new _ _,World.ownsRow_nil _ _ _ _,by simp [Value.ownBlock]⟩
theorem bld_keep {B b:Nat} {s:ByteArray} {w w':World} (h:BldAt B b s w) (hb:Below w.heap.size w w'):BldAt B b s w':=by
 have key:∀p,Lib.BuilderAt 70 5 B b p (Lib.strCells s) w→Lib.BuilderAt 70 5 B b p (Lib.strCells s) w':=by
  rintro p ⟨h1,v,h2,h3,h4⟩
  refine ⟨h1,v,?_,own_chg h3 (Chg.of_below (S:=fun _=>False) hb) (fun _ _ h=>h),h4⟩
  rw [hb.block b (Array.getElem?_eq_some_iff.1 h2).1]
  exact h2
 rcases h with h|h
 ·exact .inl (key _ h)
 ·exact .inr (key _ h)
theorem bld_chg {B b:Nat} {s:ByteArray} {w w':World} {S:Nat→Prop} (h:BldAt B b s w) (hc:Chg S w w') (hs:¬S b) (hn:∀i cs fz,w.heap[i]? =some (.cells cs 5 fz)→¬S i):BldAt B b s w':=by
 have key:∀p,Lib.BuilderAt 70 5 B b p (Lib.strCells s) w→Lib.BuilderAt 70 5 B b p (Lib.strCells s) w':=by
  rintro p ⟨h1,v,h2,h3,h4⟩
  refine ⟨h1,v,?_,own_chg h3 hc (fun i hi hh=>?_),h4⟩
  ·rw [hc.block b (Array.getElem?_eq_some_iff.1 h2).1 hs]
   exact h2
  ·rcases h3.2 with ⟨hv,_⟩|⟨g,cap,cur,hv,_,hb,_⟩
   ·rw [hv] at hi;cases hi
   ·rw [hv] at hi
    simp [Value.ownBlock] at hi;subst hi;exact hn _ _ _ hb hh
 rcases h with h|h
 ·exact .inl (key _ h)
 ·exact .inr (key _ h)
theorem info_u8:(Tryz.prog.info? 5).map (fun i=>(i.zero,i.size,i.bytes))=some (some (.int .u8 0),1,1):=by kernel_rfl
theorem noEscape (v:Value) (w:World):(callFunc 108 #[v]).run Tryz.prog w= .ok (.value v) w:=by kernel_rfl
theorem sizeBld:(Tryz.prog.info? 70).map (·.size)=some 2:=by kernel_rfl
theorem liesBld:liesAt Tryz.prog Tryz.prog.depth 70 (2/Tryz.prog.cellsOf 70) 0 70 1=true:=by kernel_rfl
def CopyPost (B b:Nat) (s:ByteArray) (w:World) (e:Ending) (w':World):Prop:=e= .returned (.tuple #[])∧Lib.BuilderAt 70 5 B b (.pointer (some ⟨b,0,none⟩)) (Lib.strCells s) w'∧Below B w w'∧Oth b w w'
set_option maxRecDepth 100000 in
theorem copyCheck_calls {B b:Nat} {s:ByteArray} {w:World} (h:BldAt B b s w):Calls Tryz.prog 69 #[.pointer (some ⟨b,0,none⟩)] w (CopyPost B b s w):=by
 rcases h with h|h
 ·obtain ⟨h1,v,h2,h3,h4⟩:=h
  have c0:w.cell? ⟨b,0,none⟩=some (.pointer none):=by rw [cell_of h2];rfl
  have f0:=frozen_of h2 0;have hset:Lib.BuilderAt 70 5 B b (.pointer (some ⟨b,0,none⟩)) (Lib.strCells s) (w.setCell ⟨b,0,none⟩ (.pointer (some ⟨b,0,none⟩))):=by
   refine ⟨h1,v,?_,own_chg h3 (Chg.set (S:=fun i=>i=b) w rfl 0 _) (fun i hi hh=>h4 (by rw [hi,hh])),h4⟩
   rw [heap_setCell_same w b 0 _ _ _ h2]
   rfl
  have HS:=Lib.hid hset;have ho:Oth b w (w.setCell ⟨b,0,none⟩ (.pointer (some ⟨b,0,none⟩))):=(Lib.OthersKept.refl _ _ w).setCell ⟨b,0,none⟩ rfl _;have HO:=Lib.hid ho;obtain ⟨j,hj,hjs⟩:=Option.map_eq_some_iff.1 sizeBld;have hsh:w.shape? b=some (70,2):=by simp [World.shape?,h2]
  have hct:=Lib.run_to_unsafe w ⟨b,0,none⟩ Tryz.underlying67 Tryz.underlying187 hj (by rw [hjs];decide) hsh (Nat.zero_lt_succ 1)
  have hcf:=Lib.run_from_unsafe w ⟨b,0,none⟩ Tryz.underlying187 Tryz.underlying67 hj hsh liesBld;have HNe:=noEscape (.pointer (some ⟨b,0,none⟩)) w;have h1':=Lib.hid h1;clear h2 h3 h4 hset ho h1 hsh hj hjs;go_enter Tryz.func69,Tryz.ntmps69;go_wp2;go_end0;exact ⟨rfl,HS.out,(Below.refl _ _).setCell h1'.out _,HO.out⟩
 ·have HS:=Lib.hid h
  obtain ⟨h1,v,h2,h3,h4⟩:=h;have c0:w.cell? ⟨b,0,none⟩=some (.pointer (some ⟨b,0,none⟩)):=by rw [cell_of h2];rfl
  obtain ⟨j,hj,_⟩:=Option.map_eq_some_iff.1 sizeBld;have hne:=Lib.run_neq_ptr_same w ⟨b,0,none⟩ Tryz.underlying67 hj;clear h1 h2 h3 h4;go_enter Tryz.func69,Tryz.ntmps69;go_wp2;go_end0;exact ⟨rfl,HS.out,Below.refl _ _,Lib.OthersKept.refl _ _ _⟩
def WritePost (B b:Nat) (s t:ByteArray) (w:World) (e:Ending) (w':World):Prop:=e= .returned (.tuple #[.int .i64 t.size,.nilIface])∧BldAt B b (s++t) w'∧Below B w w'∧Oth b w w'
theorem strCells_append (s t:ByteArray):Lib.strCells (s++t)=Lib.strCells s++Lib.strCells t:=by
 unfold Lib.strCells;rw [ByteArray.data_append,Array.toList_append,List.map_append]
set_option maxRecDepth 100000 in
set_option maxHeartbeats 1000000 in
theorem bld_write {B b:Nat} {s:ByteArray} (t:ByteArray) {w:World} (h:BldAt B b s w) (hs:s.size≤10000000) (ht:t.size≤10000000) (hBw:B≤w.heap.size):Calls Tryz.prog 35 #[.pointer (some ⟨b,0,none⟩),.string t] w (WritePost B b s t w):=by
 obtain ⟨i0,hi,hz0,hz1,hz2⟩:=info_parts info_u8;have HN:Hid (i0.zero=some (.int .u8 0)∧i0.size=1∧i0.bytes=1∧Tryz.prog.info? 5=some i0):=⟨hz0,hz1,hz2,hi⟩
 have HC:=Lib.hid (copyCheck_calls h)
 clear hz0 hz1 hz2 hi h;go_enter Tryz.func35,Tryz.ntmps35;go_wp2_with fail;refine HC.out.mono ?_;rintro e w1 ⟨rfl,h1,hb1,ho1⟩
 obtain ⟨hB,v,hbk,hown,hne⟩:=h1;have c1:w1.cell? ⟨b,1,none⟩=some v:=by rw [cell_of hbk];rfl
 have HOwn:=Lib.hid hown;have HBk:=Lib.hid hbk;have HNe:=Lib.hid hne;have HB1:=Lib.hid hb1;have HO1:=Lib.hid ho1;have hs1:(Lib.strCells s).length=s.size:=Lib.strCells_length s;have HS1:=Lib.hid hs1;clear hown hbk hne hb1 ho1 hs1;have hlt:b<w1.heap.size:=(Array.getElem?_eq_some_iff.1 HBk.out).1;have HLt:=Lib.hid hlt;clear hlt;go_wp2_with (at_builtin;refine Lib.wpList_append_own_string _ rfl _ _ 68 9 rfl B 5 i0 Tryz.underlying68 Tryz.underlying9 HN.out.2.2.2 HN.out.1 HN.out.2.1 HN.out.2.2.1 _ _ _ rfl HOwn.out t rfl ?c3 ?c4 ?c5 ?_;(case c3=>(rw [HS1.out];unfold maxLen;omega));(case c4=>(rw [HS1.out];omega));(case c5=>(have:=HB1.out.size;omega));intro v' w2 hown' hgrow hx;obtain ⟨A',c',rfl⟩:=Lst.owns_form hown';have HB2:=Lib.hid (show w2.heap[b]? =some (.cells #[.pointer (some ⟨b,0,none⟩),v] 70 (0,0)) from (hgrow.block b HLt.out (fun e=>HNe.out e.symm)).trans HBk.out);have d1:w2.cell? ⟨b,1,none⟩=some v:=(by rw [cell_of HB2.out];rfl);have f1:=frozen_of HB2.out 1;have HOwn2:=Lib.hid hown';have HGr:=Lib.hid (show w1.grownBy w2 v.ownBlock from hgrow);clear hown' hgrow hx)
 go_ret2;refine ⟨rfl,.inr ?_,?_,?_⟩
 ·refine Lib.BuilderAt.put (T:=70) (e:=5) hB HB2.out (bs':=Lib.strCells (s++t)) ?_ (by decide)
  rw [strCells_append,List.length_append,Lib.strCells_length t]
  exact HOwn2.out
 ·exact (HB1.out.grown HGr.out (by have:=HB1.out.size;omega) (fun k hk=>(HOwn.out.lt k hk).1)).setCell (p:=⟨b,1,none⟩) hB _
 ·refine Lib.OthersKept.setCell (HO1.out.grown HGr.out (fun g hg=>?_)) ⟨b,1,none⟩ rfl _
  rcases HOwn.out.2 with ⟨hv,_⟩|⟨g',cap',cur,hv,_,hb,_⟩
  ·rw [hv] at hg;cases hg
  ·rw [hv] at hg
   simp [Value.ownBlock] at hg;subst hg;exact ⟨_,_,hb⟩
theorem bld_string {B b:Nat} {s:ByteArray} {w:World} (h:BldAt B b s w) (hBw:B≤w.heap.size):Calls Tryz.prog 36 #[.pointer (some ⟨b,0,none⟩)] w fun e w'=>e= .returned (.string s)∧Below B w w'∧Oth b w w':=by
 refine (Tryz.Builder_String_any_k B b s.data.toList w (Lib.IsBuilderF.of h) hBw).mono ?_;rintro e w' ⟨rfl,_,h2,h3⟩
 exact ⟨by simp,h2,h3⟩
end Out
namespace Pun
open Go.RowKit QBp Go.Proofs.YtooiooledeblmaaGreatW.PrintWords Go.Proofs.YtooiooledeblmaaGreatW.PrintMore
theorem u64w {n:Int} (h0:0≤n) (h1:n≤18446744073709551615):IntKind.u64.wrap n=n:=by rw [IntKind.wrap_u64];omega
theorem i64w {n:Int} (h0: -9223372036854775808≤n) (h1:n≤9223372036854775807):wrap64 n=n:=by unfold wrap64;omega
def sm (n:Int):Int:=if n<0 then 0 else if n>1000 then 1000 else n
theorem sm_in (n:Int):0≤sm n∧sm n≤1000:=by unfold sm;(repeat' split) <;>omega
theorem small_f (n:Int):bias_small.f n=some (sm n):=by
 unfold bias_small.f sm mn mx
 congr 1
 (repeat' split) <;>omega
def thr (p b:Int):Int:=if 36*(sm p+1)-sm b<1 then 1 else if 36*(sm p+1)-sm b>26 then 26 else 36*(sm p+1)-sm b
theorem thr_in (p b:Int):1≤thr p b∧thr p b≤26:=by unfold thr;(repeat' split) <;>omega
theorem thr_go (p b:Int):bias_Threshold.f p b=some (thr p b):=by
 have h1:=sm_in p;have h2:=sm_in b;unfold bias_Threshold.f;rw [small_f,small_f]
 simp only [Option.bind_some]
 rw [i64w (n:=sm p+1) (by omega) (by omega),i64w (n:=36*(sm p+1)) (by omega) (by omega),i64w (by omega) (by omega)]
 unfold thr mn mx
 congr 1
 (repeat' split) <;>omega
def let36 (d:Int):Int:=if d<26 then 97+d else d+22
theorem let36_in (d:Int) (h0:0≤d) (h1:d<36):48≤let36 d∧let36 d≤122:=by unfold let36;split <;>omega
theorem letter_k (d:Int) (h0:0≤d) (h1:d<36) (k:Nat) (hk:60≤k):bias_Letter.f k d=some (let36 d,true):=by
 obtain ⟨k,rfl⟩:∃m,k=m+1:=⟨k-1,by omega⟩
 unfold bias_Letter.f let36;rw [if_neg (by omega),decide_eq_false (by omega)]
 simp only [bias_Letter.j0]
 by_cases h:d<26
 ·simp only [h,if_true,if_false,Bool.false_eq_true]
  congr 2
  omega
 ·simp only [h,if_true,if_false,Bool.false_eq_true]
  rw [i64w (n:=d-26) (by omega) (by omega)]
  congr 2
  omega
def putD:Nat→Int→Int→Nat→List Int
 |0,_,_,_=>[]
 |m+1,n,b,p=>if n<thr p b then [let36 n] else let36 (thr p b+(n-thr p b)%(36-thr p b))::putD m ((n-thr p b)/(36-thr p b)) b (p+1)
theorem putD_len (b:Int):∀(m:Nat) (n:Int) (p:Nat),(putD m n b p).length≤m
 |0,_,_=>Nat.le_refl _
 |m+1,n,p=>by
  rw [putD]
  split
  ·simp
  ·have:=putD_len b m ((n-thr p b)/(36-thr p b)) (p+1)
   simp only [List.length_cons]
   omega
theorem putD_pos (b:Int) (m:Nat) (n:Int) (p:Nat):1≤(putD (m+1) n b p).length:=by
 rw [putD]
 split <;>simp
def tens:Nat→Int
 |0=>1
 |n+1=>10*tens n
theorem div_bd {x t m:Int} (h0:0≤x) (ht:10≤t) (hm:x<10*m):0≤x/t∧x/t<m:=by
 refine ⟨Int.ediv_nonneg h0 (by omega),Int.ediv_lt_of_lt_mul (by omega) ?_⟩
 have h1:0<m:=by omega
 have h2:m*10≤m*t:=Int.mul_le_mul_of_nonneg_left ht (by omega)
 omega
theorem put_go (b:Int):∀(m p:Nat) (n:Int) (xs:List Int),p+m≤100→xs.length≤p→0≤n→n<tens m→n≤18446744073709551615→∀k,m+62≤k→bias_Put.l0 k n b xs (p:Int)=some (strOfNums (xs++putD (m+1) n b p))
 |m,p,n,xs,hp,hx,h0,hb,h1,k,hk=>by
  have ht:=thr_in (p:Int) b;obtain ⟨k,rfl⟩:∃m,k=m+1:=⟨k-1,by omega⟩
  by_cases hlt:n<thr (p:Int) b
  ·rw [putD,if_pos hlt]
   simp only [bias_Put.l0]
   rw [thr_go]
   simp only [Option.bind_some]
   rw [u64w (n:=thr (p:Int) b) (by omega) (by omega),if_pos hlt,i64w (by omega) (by omega),letter_k n h0 (by omega) k (by omega)]
   simp only [Option.bind_some]
   rw [if_pos (by omega)]
  ·obtain ⟨m,rfl⟩:∃q,m=q+1:=by
    cases m with
    |zero=>simp [tens] at hb;omega
    |succ m=>exact ⟨m,rfl⟩
   simp only [tens] at hb;have q:=div_bd (x:=n-thr (p:Int) b) (t:=36-thr (p:Int) b) (m:=tens m) (by omega) (by omega) (by omega)
   have q2:(n-thr (p:Int) b)/(36-thr (p:Int) b)≤n-thr (p:Int) b:=Int.ediv_le_self _ (by omega)
   have r0:0≤(n-thr (p:Int) b)%(36-thr (p:Int) b):=Int.emod_nonneg _ (by omega)
   have r1:(n-thr (p:Int) b)%(36-thr (p:Int) b)<36-thr (p:Int) b:=Int.emod_lt_of_pos _ (by omega)
   have ih:=put_go b m (p+1) ((n-thr (p:Int) b)/(36-thr (p:Int) b)) (xs++[let36 (thr (p:Int) b+(n-thr (p:Int) b)%(36-thr (p:Int) b))]) (by omega) (by simp;omega) q.1 q.2 (by omega) k (by omega)
   rw [putD,if_neg hlt]
   simp only [bias_Put.l0]
   rw [thr_go]
   simp only [Option.bind_some]
   rw [u64w (n:=thr (p:Int) b) (by omega) (by omega),if_neg hlt,u64w (n:=36-thr (p:Int) b) (by omega) (by omega),if_neg (by omega),u64w (n:=n-thr (p:Int) b) (by omega) (by omega),Int.tmod_eq_emod_of_nonneg (by omega),Int.tdiv_eq_ediv_of_nonneg (by omega),
    u64w (n:=thr (p:Int) b+(n-thr (p:Int) b)%(36-thr (p:Int) b)) (by omega) (by omega),u64w (n:=(n-thr (p:Int) b)/(36-thr (p:Int) b)) (by omega) (by omega),i64w (n:=thr (p:Int) b+(n-thr (p:Int) b)%(36-thr (p:Int) b)) (by omega) (by omega),i64w (n:=(p:Int)+1) (by omega) (by omega),
    letter_k _ (by omega) (by omega) k (by omega)]
   simp only [Option.bind_some]
   rw [if_pos (by omega),show ((p:Int)+1)=((p+1:Nat):Int) from by omega,ih]
   simp
def putS (n b:Int):List Int:=putD 12 n b 0
theorem putS_len (n b:Int):1≤(putS n b).length∧(putS n b).length≤12:=⟨putD_pos b 11 n 0,putD_len b 12 n 0⟩
theorem put_f (n b:Int) (h0:0≤n) (h1:n<100000000000):bias_Put.f 80 n b=some (strOfNums (putS n b)):=by
 have:=put_go b 11 0 n [] (by omega) (Nat.le_refl _) h0 (by simp only [tens];omega) (by omega) 80 (by omega)
 unfold bias_Put.f putS;simpa using this
theorem put_calls (n b:Int) (h0:0≤n) (h1:n<100000000000) (w:World):Calls Tryz.prog 166 #[.int .u64 n,.int .i64 b] w fun e w'=>e= .returned (.string (strOfNums (putS n b)))∧Below w.heap.size w w':=
 bias_Put.calls 80 n b _ w (put_f n b h0 h1)
def adL:Nat→Int→Int→Int
 |0,d,k=>k+36*d/(d+38)
 |m+1,d,k=>if d>455 then adL m (d/35) (k+36) else k+36*d/(d+38)
def bnd:Nat→Int
 |0=>456
 |n+1=>35*bnd n
theorem ad_q (d:Int) (h0:0≤d):0≤36*d/(d+38)∧36*d/(d+38)≤36:=by
 constructor
 ·exact Int.ediv_nonneg (by omega) (by omega)
 ·have:36*d/(d+38)<37:=Int.ediv_lt_of_lt_mul (by omega) (by omega)
  omega
theorem ad_go:∀(m:Nat) (d i:Int),m≤100→0≤d→d≤9223372036854775807→d<bnd m→0≤i→i+36*m≤10000→(0≤adL m d i∧adL m d i≤i+36*m+36)∧∀k,m<k→bias_Adapt.l0 k d i=some (adL m d i)
 |m,d,i,hm,h0,h1,hb,hi,hi2=>by
  have hq:=ad_q d h0
  by_cases hd:d>455
  ·obtain ⟨m,rfl⟩:∃q,m=q+1:=by
    cases m with
    |zero=>simp [bnd] at hb;omega
    |succ m=>exact ⟨m,rfl⟩
   simp only [bnd] at hb;obtain ⟨r,hr⟩:=ad_go m (d/35) (i+36) (by omega) (by omega) (by omega) (by omega) (by omega) (by omega)
   rw [adL,if_pos hd]
   refine ⟨by omega,fun k hk=>?_⟩
   obtain ⟨k,rfl⟩:∃m,k=m+1:=⟨k-1,by omega⟩
   simp only [bias_Adapt.l0]
   rw [if_pos hd,Int.tdiv_eq_ediv_of_nonneg h0,u64w (n:=d/35) (by omega) (by omega),i64w (n:=i+36) (by omega) (by omega)]
   exact hr k (by omega)
  ·have e:adL m d i=i+36*d/(d+38):=by
    cases m with
    |zero=>rfl
    |succ m=>rw [adL,if_neg hd]
   rw [e]
   refine ⟨by omega,fun k hk=>?_⟩
   obtain ⟨k,rfl⟩:∃m,k=m+1:=⟨k-1,by omega⟩
   simp only [bias_Adapt.l0]
   rw [if_neg hd,u64w (n:=d+38) (by omega) (by omega),if_neg (by omega),u64w (n:=36*d) (by omega) (by omega),Int.tdiv_eq_ediv_of_nonneg (by omega),u64w (by omega) (by omega),i64w (n:=36*d/(d+38)) (by omega) (by omega),i64w (by omega) (by omega)]
def adaptS (d p:Int) (first:Bool):Int:=adL 11 ((if first=true then d/700 else d/2)+(if first=true then d/700 else d/2)/p) 0
theorem adapt_f (d p:Int) (first:Bool) (h0:0≤d) (h1:d<100000000000) (hp:1≤p) (hp2:p≤1000000):(0≤adaptS d p first∧adaptS d p first≤1000)∧bias_Adapt.f 20 d p first=some (adaptS d p first):=by
 have hx:mx p 1=p:=by unfold mx;split <;>omega
 have key:∀x:Int,0≤x→x<100000000000→(0≤adL 11 (x+x/p) 0∧adL 11 (x+x/p) 0≤1000)∧bias_Adapt.j0 20 x p=some (adL 11 (x+x/p) 0):=by
  intro x x0 x1;have hq:0≤x/p∧x/p≤x:=⟨Int.ediv_nonneg x0 (by omega),Int.ediv_le_self _ x0⟩
  obtain ⟨r,hr⟩:=ad_go 11 (x+x/p) 0 (by omega) (by omega) (by omega) (by simp only [bnd];omega) (by omega) (by omega)
  refine ⟨by omega,?_⟩
  simp only [bias_Adapt.j0]
  rw [hx,if_neg (by omega),Int.tdiv_eq_ediv_of_nonneg x0,u64w (n:=x/p) (by omega) (by omega),u64w (n:=x+x/p) (by omega) (by omega)]
  exact hr 19 (by omega)
 unfold bias_Adapt.f adaptS
 cases first with
 |true=>
  simp only [if_true]
  rw [Int.tdiv_eq_ediv_of_nonneg h0,u64w (n:=d/700) (by omega) (by omega)]
  exact key (d/700) (by omega) (by omega)
 |false=>
  simp only [if_false,Bool.false_eq_true]
  rw [Int.tdiv_eq_ediv_of_nonneg h0,u64w (n:=d/2) (by omega) (by omega)]
  exact key (d/2) (by omega) (by omega)
theorem adapt_calls (d p:Int) (first:Bool) (h0:0≤d) (h1:d<100000000000) (hp:1≤p) (hp2:p≤1000000) (w:World):Calls Tryz.prog 167 #[.int .u64 d,.int .u64 p,.bool first] w fun e w'=>e= .returned (.int .i64 (adaptS d p first))∧Below w.heap.size w w':=
 bias_Adapt.calls 20 d p first _ w (adapt_f d p first h0 h1 hp hp2).2
end Pun
namespace Pun
open Go.RowKit Go.Sort
def low (l:List Int):List Int:=l.filter (fun c=>decide (c<128))
def high (l:List Int):List Int:=l.filter (fun c=> !decide (c<128))
def ms (l:List Int):List Int:=Lib.compact ((high l).mergeSort (fun x y=>decide (x≤y)))
theorem ms_eq (l:List Int):Lib.compactUpTo (Go.Sort.sort ltInt (high l).toArray) (high l).length=ms l:=by
 have h:=Go.Sort.sortInt (high l)
 have e:Go.Sort.sort ltInt (high l).toArray=((high l).mergeSort (fun x y=>decide (x≤y))).toArray:=by rw [←h]
 rw [e]
 unfold ms Lib.compact;rw [List.length_mergeSort]
theorem cmp_sorted (xs:List Int) (h:xs.Pairwise (fun x y=>x≤y)):(Lib.compact xs).Pairwise (fun x y=>x<y):=by
 unfold Lib.compact Lib.compactUpTo;rw [List.pairwise_map,List.pairwise_filter]
 refine List.Pairwise.imp_of_mem ?_ List.pairwise_lt_range;intro i j hi hj hij _ hk;rw [List.mem_range] at hi hj;have hp:=List.pairwise_iff_getElem.1 h;unfold Lib.keeps at hk;simp only [decide_eq_true_eq] at hk;have e1:xs.toArray[i]! =xs[i]:=by simp [hi]
 have e2:xs.toArray[j]! =xs[j]:=by simp [hj]
 have e3:xs.toArray[j-1]! =xs[j-1]:=by rw [getElem!_pos _ _ (by simp;omega)];simp
 rcases hk with hk|hk
 ·omega
 ·rw [e2,e3] at hk
  rw [e1,e2]
  have a1:xs[i]≤xs[j-1]:=by
   by_cases e:i=j-1
   ·subst e;exact Int.le_refl _
   ·exact hp i (j-1) hi (by omega) (by omega)
  have a2:xs[j-1]≤xs[j]:=hp (j-1) j (by omega) hj (by omega)
  omega
theorem sort_pw (xs:List Int):(xs.mergeSort (fun x y=>decide (x≤y))).Pairwise (fun x y=>x≤y):=by
 have:=List.pairwise_mergeSort (le:=fun x y:Int=>decide (x≤y)) (by intro a b c;simp;omega) (by intro a b;simp;omega) xs;exact this.imp (by simp)
theorem ms_sorted (l:List Int):(ms l).Pairwise (fun x y=>x<y):=cmp_sorted _ (sort_pw _)
theorem cmp_mem (xs:List Int) (x:Int):x∈Lib.compact xs→x∈xs:=by
 unfold Lib.compact Lib.compactUpTo;rw [List.mem_map]
 rintro ⟨i,hi,rfl⟩
 rw [List.mem_filter,List.mem_range] at hi;have e1:xs.toArray[i]! =xs[i]:=by simp [hi.1]
 rw [e1]
 exact List.getElem_mem _
theorem mem_cmp (xs:List Int) (h:xs.Pairwise (fun x y=>x≤y)) (x:Int) (hx:x∈xs):x∈Lib.compact xs:=by
 unfold Lib.compact Lib.compactUpTo;rw [List.mem_map]
 have hp:=List.pairwise_iff_getElem.1 h;have key:∀i,(hi:i<xs.length)→∃k,k≤i∧Lib.keeps xs.toArray k=true∧xs.toArray[k]! =xs.toArray[i]! :=by
  intro i
  induction i with
  |zero=>intro hi;exact ⟨0,Nat.le_refl _,Lib.keeps_lt_one _ 0 (by omega),rfl⟩
  |succ i ih=>
   intro hi
   by_cases e:xs.toArray[i+1]! =xs.toArray[i]!
   ·obtain ⟨k,hk,h1,h2⟩:=ih (by omega)
    exact ⟨k,by omega,h1,h2.trans e.symm⟩
   ·exact ⟨i+1,Nat.le_refl _,Lib.keeps_pos (by simpa using e),rfl⟩
 obtain ⟨i,hi,rfl⟩:=List.getElem_of_mem hx;obtain ⟨k,hk,h1,h2⟩:=key i hi;refine ⟨k,by rw [List.mem_filter,List.mem_range];exact ⟨by omega,h1⟩,?_⟩
 rw [h2]
 simp [hi]
theorem ms_mem (l:List Int) (x:Int):x∈ms l↔x∈l∧128≤x:=by
 unfold ms
 constructor
 ·intro h
  have:=cmp_mem _ _ h;rw [List.mem_mergeSort] at this;unfold high at this;rw [List.mem_filter] at this;simpa using this
 ·rintro ⟨h1,h2⟩
  refine mem_cmp _ (sort_pw _) _ ?_;rw [List.mem_mergeSort]
  unfold high;rw [List.mem_filter]
  simpa using ⟨h1,h2⟩
structure PS where
 d:Int
 b:Int
 k:Nat
 o:List Int
def pin1 (m:Int) (st:Nat) (s:PS) (c:Int):PS:=if c<m then ⟨s.d+1,s.b,s.k,s.o⟩ else if c=m then ⟨0,adaptS s.d ((s.k:Int)+1) (s.k==st),s.k+1,s.o++putS s.d s.b⟩ else s
def pout1 (l:List Int) (st:Nat) (p:Int×PS) (m:Int):Int×PS:=
 let s:=l.foldl (pin1 m st) ⟨p.2.d+(m-p.1)*((p.2.k:Int)+1),p.2.b,p.2.k,p.2.o⟩
 (m+1,⟨s.d+1,s.b,s.k,s.o⟩)
def start0 (l:List Int):List Int:=low l++if 0<(low l).length then [45] else []
def textP (l:List Int):List Int:=((ms l).foldl (pout1 l (low l).length) (128,⟨0,72,(low l).length,start0 l⟩)).2.o
def cnt (l:List Int) (n:Int):Nat:=l.countP (fun c=>decide (c<n))
def eqs (l:List Int) (n:Int):Nat:=l.countP (fun c=>decide (c=n))
theorem cnt_le (l:List Int) (n:Int):cnt l n≤l.length:=List.countP_le_length
theorem cnt_succ (m:Int):∀l:List Int,cnt l (m+1)=cnt l m+eqs l m
 |[]=>rfl
 |c::l=>by
  have:=cnt_succ m l;unfold cnt eqs at*;simp only [List.countP_cons]
  generalize List.countP (fun c=>decide (c<m+1)) l=X at this ⊢;generalize List.countP (fun c=>decide (c<m)) l=Y at this ⊢;generalize List.countP (fun c=>decide (c=m)) l=Z at this ⊢
  by_cases h1:c<m
  ·simp [show c<m from h1,show c<m+1 by omega,show ¬c=m by omega];omega
  ·by_cases h2:c=m
   ·subst h2;simp [show c<c+1 by omega,Int.lt_irrefl];omega
   ·simp [show ¬c<m from h1,h2,show ¬c<m+1 by omega];omega
theorem cnt_mono (n m:Int) (h:n≤m):∀l:List Int,cnt l n≤cnt l m
 |[]=>Nat.le_refl _
 |c::l=>by
  have:=cnt_mono n m h l;unfold cnt at*;simp only [List.countP_cons]
  by_cases h1:c<n
  ·simp [h1,show c<m by omega];omega
  ·simp [h1];omega
theorem eqs_take (l:List Int) (n:Int) (j:Nat):eqs (l.take j) n≤eqs l n:=by
 unfold eqs;exact List.Sublist.countP_le (List.take_sublist j l)
structure PInv (l:List Int) (n:Int) (s:PS) (rest:List Int):Prop where
 n0:128≤n
 n1:n≤1114112
 k1:s.k≤cnt l n
 d0:0≤s.d
 d1:s.d≤61*n
 b0:0≤s.b
 b1:s.b≤1000
 ol:s.o.length≤12*s.k+1
 srt:rest.Pairwise (fun x y=>x<y)
 lo:∀x∈rest,n≤x
 hi:∀x∈rest,x≤1114111
structure PIn (l:List Int) (m:Int) (j:Nat) (s:PS):Prop where
 k1:s.k≤cnt l m+eqs (l.take j) m
 d0:0≤s.d
 d1:s.d≤61*m+j
 b0:0≤s.b
 b1:s.b≤1000
 ol:s.o.length≤12*s.k+1
theorem low_cnt (l:List Int):(low l).length=cnt l 128:=by
 unfold low cnt;rw [List.countP_eq_length_filter]
theorem start_len (l:List Int):(start0 l).length≤(low l).length+1:=by
 unfold start0;rw [List.length_append]
 split <;>simp
theorem pinv_start (l:List Int) (hs:∀x∈l,x≤1114111):PInv l 128 ⟨0,72,(low l).length,start0 l⟩ (ms l):=by
 refine ⟨by omega,by omega,by rw [low_cnt];exact Nat.le_refl _,by simp,by simp,by simp,by simp,?_,ms_sorted l,fun x hx=>((ms_mem l x).1 hx).2,fun x hx=>hs x ((ms_mem l x).1 hx).1⟩
 have:=start_len l;simp only;omega
theorem pin_start {l:List Int} {n m:Int} {s:PS} {rest:List Int} (hl:l.length≤60) (h:PInv l n s (m::rest)):PIn l m 0 ⟨s.d+(m-n)*((s.k:Int)+1),s.b,s.k,s.o⟩:=by
 have hm:=h.lo m (by simp)
 have hk:=h.k1;have hc:=cnt_le l n;have hcm:=cnt_mono n m hm l;have h1:(m-n)*((s.k:Int)+1)≤(m-n)*61:=Int.mul_le_mul_of_nonneg_left (by omega) (by omega)
 have h2:0≤(m-n)*((s.k:Int)+1):=Int.mul_nonneg (by omega) (by omega)
 have d0:=h.d0;have d1:=h.d1;exact ⟨by simp only;omega,by simp only;omega,by simp only;omega,h.b0,h.b1,h.ol⟩
theorem take_one (l:List Int) (j:Nat) (hj:j<l.length) (m:Int):eqs (l.take (j+1)) m=eqs (l.take j) m+if l.getD j 0=m then 1 else 0:=by
 unfold eqs;rw [List.take_succ_eq_append_getElem hj,List.countP_append,List.getD_eq_getElem?_getD,List.getElem?_eq_getElem hj]
 simp [List.countP_cons]
theorem pin_step {l:List Int} {m:Int} {j:Nat} {s:PS} (st:Nat) (hl:l.length≤60) (hm0:128≤m) (hm:m≤1114111) (hj:j<l.length) (h:PIn l m j s):PIn l m (j+1) (pin1 m st s (l.getD j 0)):=by
 have hk:=h.k1;have hc:=cnt_le l m;have h2:=eqs_take l m j;have h3:=cnt_succ m l;have h4:=cnt_le l (m+1)
 have ht:=take_one l j hj m;have d0:=h.d0;have d1:=h.d1;have ho:=h.ol;unfold pin1
 split
 ·rename_i hlt
  rw [if_neg (by omega)] at ht;exact ⟨by simp only;omega,by simp only;omega,by simp only;omega,h.b0,h.b1,h.ol⟩
 ·split
  ·rename_i hlt he
   rw [if_pos he] at ht;have ha:=(adapt_f s.d ((s.k:Int)+1) (s.k==st) d0 (by omega) (by omega) (by omega)).1;have hp:=putS_len s.d s.b;exact ⟨by simp only;omega,by simp,by simp only;omega,ha.1,ha.2,by simp only [List.length_append];omega⟩
  ·rename_i hlt he
   rw [if_neg he] at ht;exact ⟨by omega,by omega,by omega,h.b0,h.b1,h.ol⟩
theorem pin_end {l:List Int} {n m:Int} {s s':PS} {rest:List Int} (hl:l.length≤60) (h:PInv l n s (m::rest)) (h':PIn l m l.length s'):PInv l (m+1) ⟨s'.d+1,s'.b,s'.k,s'.o⟩ rest:=by
 have hm:=h.lo m (by simp)
 have hm1:=h.hi m (by simp)
 have hp:=List.pairwise_cons.1 h.srt;have hk:=h'.k1;have n0:=h.n0;rw [List.take_length] at hk;have hc:=cnt_succ m l;have d0:=h'.d0;have d1:=h'.d1;exact ⟨by omega,by omega,by simp only;omega,by simp only;omega,by simp only;omega,h'.b0,h'.b1,h'.ol,hp.2,fun x hx=>by have:=hp.1 x hx;omega,fun x hx=>h.hi x (List.mem_cons_of_mem _ hx)⟩
theorem pin_fold {l:List Int} {m:Int} (st:Nat) (hl:l.length≤60) (hm0:128≤m) (hm:m≤1114111):∀(n j:Nat) (s:PS),j+n=l.length→PIn l m j s→PIn l m l.length ((l.drop j).foldl (pin1 m st) s)
 |0,j,s,hj,h=>by
  rw [List.drop_of_length_le (by omega)]
  obtain rfl:j=l.length:=by omega
  exact h
 |n+1,j,s,hj,h=>by
  rw [List.drop_eq_getElem_cons (by omega),List.foldl_cons]
  have:=pin_step st hl hm0 hm (by omega) h;rw [List.getD_eq_getElem?_getD,List.getElem?_eq_getElem (by omega)] at this;exact pin_fold st hl hm0 hm n (j+1) _ (by omega) this
theorem pout_fold {l:List Int} (hl:l.length≤60):∀(rest:List Int) (n:Int) (s:PS),PInv l n s rest→∃n',PInv l n' (rest.foldl (pout1 l (low l).length) (n,s)).2 []
 |[],n,s,h=>⟨n,h⟩
 |m::rest,n,s,h=>by
  have hm:=h.lo m (by simp)
  have n0:=h.n0;have h1:=pin_fold (low l).length hl (by omega) (h.hi m (by simp)) l.length 0 _ (by omega) (pin_start hl h)
  rw [List.drop_zero] at h1;exact pout_fold hl rest (m+1) _ (pin_end hl h h1)
theorem textP_len (l:List Int) (hl:l.length≤60) (hs:∀x∈l,x≤1114111):(textP l).length≤721:=by
 obtain ⟨n',h⟩:=pout_fold hl (ms l) 128 _ (pinv_start l hs)
 have h1:=h.ol;have h2:=h.k1;have h3:=cnt_le l n';unfold textP;omega
theorem pin_mono (m:Int) (st:Nat):∀(l:List Int) (s:PS),s.o.length≤(l.foldl (pin1 m st) s).o.length∧((∃c∈l,c=m)→1≤(l.foldl (pin1 m st) s).o.length)
 |[],s=>⟨Nat.le_refl _,by rintro ⟨c,hc,_⟩;cases hc⟩
 |c::l,s=>by
  obtain ⟨h1,h2⟩:=pin_mono m st l (pin1 m st s c)
  have h3:s.o.length≤(pin1 m st s c).o.length∧(c=m→1≤(pin1 m st s c).o.length):=by
   have hp:=putS_len s.d s.b;unfold pin1
   split
   ·exact ⟨Nat.le_refl _,fun h=>absurd h (by omega)⟩
   ·split
    ·exact ⟨by simp,fun _=>by simp only [List.length_append];omega⟩
    ·rename_i h;exact ⟨Nat.le_refl _,fun h'=>absurd h' h⟩
  rw [List.foldl_cons]
  refine ⟨by omega,?_⟩
  rintro ⟨x,hx,rfl⟩
  rcases List.mem_cons.1 hx with rfl|hx
  ·have:=h3.2 rfl;omega
  ·exact h2 ⟨_,hx,rfl⟩
theorem pout_mono (l:List Int) (st:Nat):∀(rest:List Int) (p:Int×PS),p.2.o.length≤(rest.foldl (pout1 l st) p).2.o.length∧((∃m∈rest,m∈l)→1≤(rest.foldl (pout1 l st) p).2.o.length)
 |[],p=>⟨Nat.le_refl _,by rintro ⟨c,hc,_⟩;cases hc⟩
 |m::rest,p=>by
  obtain ⟨h1,h2⟩:=pout_mono l st rest (pout1 l st p m)
  have h3:=pin_mono m st l ⟨p.2.d+(m-p.1)*((p.2.k:Int)+1),p.2.b,p.2.k,p.2.o⟩
  rw [List.foldl_cons]
  have e:(pout1 l st p m).2.o.length=(l.foldl (pin1 m st) ⟨p.2.d+(m-p.1)*((p.2.k:Int)+1),p.2.b,p.2.k,p.2.o⟩).o.length:=rfl;refine ⟨by have:=h3.1;simp only at this;omega,?_⟩
  rintro ⟨x,hx,hl⟩
  rcases List.mem_cons.1 hx with rfl|hx
  ·have:=h3.2 ⟨_,hl,rfl⟩;omega
  ·exact h2 ⟨x,hx,hl⟩
theorem textP_pos (l:List Int) (h:1≤l.length):1≤(textP l).length:=by
 obtain ⟨h1,h2⟩:=pout_mono l (low l).length (ms l) (128,⟨0,72,(low l).length,start0 l⟩)
 unfold textP
 cases l with
 |nil=>simp at h
 |cons c l=>
  by_cases hc:c<128
  ·have:1≤(start0 (c::l)).length:=by
    unfold start0 low;simp [hc]
   simp only at h1;omega
  ·exact h2 ⟨c,(ms_mem _ _).2 ⟨by simp,by omega⟩,by simp⟩
end Pun
namespace Out
open Go.RowKit Win Stp Lst
theorem strCells_one (x:Int) (h0:0≤x) (h1:x≤255):Lib.strCells (strOfNums [x])=[.int .u8 x]:=by
 simp [Lib.strCells,strOfNums]
 omega
def BytePost (B b:Nat) (s:ByteArray) (x:Int) (w:World) (e:Ending) (w':World):Prop:=e= .returned .nilIface∧BldAt B b (s++strOfNums [x]) w'∧Below B w w'∧Oth b w w'
set_option maxRecDepth 100000 in
set_option maxHeartbeats 1000000 in
theorem bld_byte {B b:Nat} {s:ByteArray} (x:Int) {w:World} (h:BldAt B b s w) (hs:s.size≤10000000) (h0:0≤x) (h1:x≤255) (hBw:B≤w.heap.size):Calls Tryz.prog 162 #[.pointer (some ⟨b,0,none⟩),.int .u8 x] w (BytePost B b s x w):=by
 obtain ⟨i0,hi,hz0,hz1,hz2⟩:=info_parts info_u8;have HN:Hid (i0.zero=some (.int .u8 0)∧i0.size=1∧i0.bytes=1∧Tryz.prog.info? 5=some i0):=⟨hz0,hz1,hz2,hi⟩
 have HC:=Lib.hid (copyCheck_calls h)
 have HX:=Lib.hid (strCells_one x h0 h1)
 clear hz0 hz1 hz2 hi h;go_enter Tryz.func162,Tryz.ntmps162;go_wp2_with fail;refine HC.out.mono ?_;rintro e w1 ⟨rfl,h1,hb1,ho1⟩
 obtain ⟨hB,v,hbk,hown,hne⟩:=h1;have c1:w1.cell? ⟨b,1,none⟩=some v:=by rw [cell_of hbk];rfl
 have hlt:b<w1.heap.size:=(Array.getElem?_eq_some_iff.1 hbk).1;have hs1:(Lib.strCells s).length=s.size:=Lib.strCells_length s;obtain ⟨wx,hwx⟩:∃wx,wx=w1.alloc (.cells #[.int .u8 x] 5):=⟨_,rfl⟩
 have hown2:=hown.alloc (.cells #[.int .u8 x] 5)
 have hnew:=heap_alloc_new w1 (.cells #[.int .u8 x] 5)
 have HOwn:=Lib.hid hown2;have HOwn0:=Lib.hid hown;have HNew:=Lib.hid hnew;have HBk:=Lib.hid hbk;have HNe:=Lib.hid hne;have HB1:=Lib.hid hb1;have HO1:=Lib.hid ho1;have HS1:=Lib.hid hs1;have HLt:=Lib.hid hlt;clear hown hown2 hnew hbk hne hb1 ho1 hs1 hlt hwx;go_wp2_with (at_builtin;refine wpList_append_lies _ rfl (.tmp 11) (.tmp 13) 68 rfl B 5 i0 (.int .u8 0) 1 1 Tryz.underlying68 HN.out.2.2.2 HN.out.1 HN.out.2.1 HN.out.2.2.1 rfl (by decide) v _ (Lib.strCells s) rfl HOwn.out ⟨w1.heap.size,0,none⟩ 1 1 [.int .u8 x] rfl rfl ?c1 ?c2 (by decide) ?c3 ?c4 ?c5 _ rfl ?_;(case c1=>exact World.news_of_block HNew.out);(case c2=>intro u hu;simp at hu;subst hu;rfl);(case c3=>rw [HS1.out];unfold maxLen;omega);(case c4=>rw [HS1.out];omega);(case c5=>(have:=HB1.out.size;simp;omega));intro r c1' w2 hown' hgrow hat hlt2;have HB2:=Lib.hid (show w2.heap[b]? =some (.cells #[.pointer (some ⟨b,0,none⟩),v] 70 (0,0)) from (hgrow.block b (by have:=HLt.out;simp;omega) (fun e=>HNe.out e.symm)).trans ((Below.heap_alloc w1 _ b HLt.out).trans HBk.out));have d1:w2.cell? ⟨b,1,none⟩=some v:=(by rw [cell_of HB2.out];rfl);have f1:=frozen_of HB2.out 1;have HOwn2:=Lib.hid hown';have HGr:=Lib.hid hgrow;clear hown' hgrow hat hlt2)
 go_ret;refine ⟨rfl,.inr ?_,?_,?_⟩
 ·refine Lib.BuilderAt.put (T:=70) (e:=5) hB HB2.out (bs':=Lib.strCells (s++strOfNums [x])) ?_ (by decide)
  rw [strCells_append,List.length_append,HX.out]
  exact HOwn2.out
 ·exact ((HB1.out.alloc (Nat.le_trans hBw HB1.out.size) _).grown HGr.out (by have:=HB1.out.size;simp;omega) (fun k hk=>(HOwn.out.lt k hk).1)).setCell (p:=⟨b,1,none⟩) hB _
 ·have ha:Oth b w1 (w1.alloc (.cells #[.int .u8 x] 5)):=(Lib.OthersKept.refl _ _ w1).alloc _
  refine Lib.OthersKept.setCell ((HO1.out.trans ha).grown HGr.out (fun g hg=>?_)) ⟨b,1,none⟩ rfl _;rcases HOwn.out.2 with ⟨hv,_⟩|⟨g',cap',cur,hv,_,hb,_⟩
  ·rw [hv] at hg;cases hg
  ·rw [hv] at hg
   simp [Value.ownBlock] at hg;subst hg;exact ⟨_,_,hb⟩
theorem bld_len {B b:Nat} {s:ByteArray} {w:World} (h:BldAt B b s w):Calls Tryz.prog 163 #[.pointer (some ⟨b,0,none⟩)] w fun e w'=>e= .returned (.int .i64 s.size)∧w=w':=by
 have:=Tryz.Builder_Len B b _ w h;rw [Lib.strCells_length] at this;exact this.mono fun _ _ ⟨h1,h2⟩=>⟨h1,h2.symm⟩
end Out
namespace Out
open Go.RowKit Win Stp Go.Proofs.YtooiooledeblmaaGreatW.PrintMore
theorem andNot127 (c:Nat) (h:c<4294967296):c&&&4294967168=c/128*128:=by
 have e1:(4294967168:Nat)=(2^25-1)<<<7:=by decide
 have e2:c/128*128=(c>>>7)<<<7:=by rw [Nat.shiftRight_eq_div_pow,Nat.shiftLeft_eq]
 apply Nat.eq_of_testBit_eq;intro i;rw [Nat.testBit_and,e1,e2,Nat.testBit_shiftLeft,Nat.testBit_shiftLeft,Nat.testBit_two_pow_sub_one,Nat.testBit_shiftRight]
 by_cases h7:7≤i
 ·have e3:7+(i-7)=i:=by omega
  rw [e3]
  by_cases h32:i<32
  ·simp [h7,show i-7<25 by omega]
  ·have:c.testBit i=false:=Nat.testBit_lt_two_pow (Nat.lt_of_lt_of_le h (Nat.pow_le_pow_right (n:=2) (i:=32) (by decide) (by omega)))
   simp [this]
 ·simp [h7]
theorem andNot_int (c:Int) (h0:0≤c) (h1:c<4294967296):bits .andNot .u32 c 127=c/128*128:=by
 rw [u32_andNot c 127 h0 h1 (by decide) (by decide)]
 have:=andNot127 c.toNat (by omega)
 simp only [show (127:Int).toNat=127 from rfl,show 4294967295-127=4294967168 from rfl]
 rw [this]
 omega
def prevC (c:Int):Int:=if 12352≤c∧c≤12447 then 12400 else if 19968≤c∧c≤40869 then 30481 else if 44032≤c∧c≤55203 then 49617 else c/128*128+64
theorem prev_calls (c:Int) (w:World) (h0:0≤c) (h1:c≤1114111):Calls Tryz.prog 194 #[.int .u32 c] w fun e w'=>e= .returned (.int .u32 (prevC c))∧w=w':=by
 have ha:=Lib.hid (andNot_int c h0 (by omega))
 unfold prevC
 by_cases a1:12352≤c
 ·by_cases a2:c≤12447
  ·rw [if_pos ⟨a1,a2⟩]
   go_enter Tryz.func194,Tryz.ntmps194;go_wp2;go_ret;exact ⟨rfl,rfl⟩
  ·rw [if_neg (by omega)]
   by_cases b1:19968≤c
   ·by_cases b2:c≤40869
    ·rw [if_pos ⟨b1,b2⟩]
     go_enter Tryz.func194,Tryz.ntmps194;go_wp2;go_ret;exact ⟨rfl,rfl⟩
    ·rw [if_neg (by omega)]
     by_cases c1:44032≤c
     ·by_cases c2:c≤55203
      ·rw [if_pos ⟨c1,c2⟩]
       go_enter Tryz.func194,Tryz.ntmps194;go_wp2;go_ret;exact ⟨rfl,rfl⟩
      ·rw [if_neg (by omega)]
       go_enter Tryz.func194,Tryz.ntmps194;go_wp2;go_ret;exact ⟨by simp only [ha.out];simp;omega,rfl⟩
     ·rw [if_neg (by omega)]
      go_enter Tryz.func194,Tryz.ntmps194;go_wp2;go_ret;exact ⟨by simp only [ha.out];simp;omega,rfl⟩
   ·have c1:¬44032≤c:=by omega
    rw [if_neg (by omega),if_neg (by omega)]
    go_enter Tryz.func194,Tryz.ntmps194;go_wp2;go_ret;exact ⟨by simp only [ha.out];simp;omega,rfl⟩
 ·have b1:¬19968≤c:=by omega
  have c1:¬44032≤c:=by omega
  rw [if_neg (by omega),if_neg (by omega),if_neg (by omega)]
  go_enter Tryz.func194,Tryz.ntmps194;go_wp2;go_ret;exact ⟨by simp only [ha.out];simp;omega,rfl⟩
def placeC (d:Int):Int×Int×Nat:=
 if -64≤d∧d≤63 then (0,144+d,0) else if 187659<d then (d-187660,254,3) else if 10512<d then (d-10513,251,2) else if 63<d then (d-64,208,1)
 else if d< -187660 then (d+187660,34,3) else if d< -10513 then (d+10513,37,2) else (d+64,80,1)
theorem place_calls (d:Int) (w:World) (h0: -1114111≤d) (h1:d≤1114111):
  Calls Tryz.prog 195 #[.int .i64 d] w fun e w'=>e= .returned (.tuple #[.int .i64 (placeC d).1,.int .i64 (placeC d).2.1,.int .i64 (placeC d).2.2])∧w=w':=by
 unfold placeC
 by_cases a1: -64≤d
 ·by_cases a2:d≤63
  ·rw [if_pos ⟨a1,a2⟩]
   go_enter Tryz.func195,Tryz.ntmps195;go_wp2;go_ret3;exact ⟨by first|rfl|(simp;omega),rfl⟩
  ·rw [if_neg (by omega)]
   by_cases b1:187659<d
   ·rw [if_pos b1]
    go_enter Tryz.func195,Tryz.ntmps195;go_wp2;go_ret3;exact ⟨by first|rfl|(simp;omega),rfl⟩
   ·rw [if_neg b1]
    by_cases b2:10512<d
    ·rw [if_pos b2]
     go_enter Tryz.func195,Tryz.ntmps195;go_wp2;go_ret3;exact ⟨by first|rfl|(simp;omega),rfl⟩
    ·have b3:63<d:=by omega
     rw [if_neg b2,if_pos b3]
     go_enter Tryz.func195,Tryz.ntmps195;go_wp2;go_ret3;exact ⟨by first|rfl|(simp;omega),rfl⟩
 ·have b1:¬187659<d:=by omega
  have b2:¬10512<d:=by omega
  have b3:¬63<d:=by omega
  rw [if_neg (by omega),if_neg b1,if_neg b2,if_neg b3]
  by_cases c1:d< -187660
  ·rw [if_pos c1]
   go_enter Tryz.func195,Tryz.ntmps195;go_wp2;go_ret3;exact ⟨by first|rfl|(simp;omega),rfl⟩
  ·rw [if_neg c1]
   by_cases c2:d< -10513
   ·rw [if_pos c2]
    go_enter Tryz.func195,Tryz.ntmps195;go_wp2;go_ret3;exact ⟨by first|rfl|(simp;omega),rfl⟩
   ·rw [if_neg c2]
    go_enter Tryz.func195,Tryz.ntmps195;go_wp2;go_ret3;exact ⟨by first|rfl|(simp;omega),rfl⟩
def byteC (v:Int):Int:=if 20≤v then v+13 else if 16≤v then v+12 else if 6≤v then v+10 else v+1
theorem byte_calls (v:Int) (w:World) (h0:0≤v) (h1:v<243):Calls Tryz.prog 196 #[.int .i64 v] w fun e w'=>e= .returned (.tuple #[.int .u8 (byteC v),.bool true])∧w=w':=by
 have k0:¬v<0:=by omega
 have k1:¬243≤v:=by omega
 unfold byteC
 by_cases a1:20≤v
 ·rw [if_pos a1]
  go_enter Tryz.func196,Tryz.ntmps196;go_wp2;go_ret2;exact ⟨by first|rfl|(simp;omega),rfl⟩
 ·rw [if_neg a1]
  by_cases a2:16≤v
  ·rw [if_pos a2]
   go_enter Tryz.func196,Tryz.ntmps196;go_wp2;go_ret2;exact ⟨by first|rfl|(simp;omega),rfl⟩
  ·rw [if_neg a2]
   by_cases a3:6≤v
   ·rw [if_pos a3]
    go_enter Tryz.func196,Tryz.ntmps196;go_wp2;go_ret2;exact ⟨by first|rfl|(simp;omega),rfl⟩
   ·rw [if_neg a3]
    go_enter Tryz.func196,Tryz.ntmps196;go_wp2;go_ret2;exact ⟨by first|rfl|(simp;omega),rfl⟩
def digs (L:Int):Nat→List Int
 |0=>[]
 |j+1=>byteC (L/243^j%243)::digs L j
theorem digs_length (L:Int):∀j,(digs L j).length=j
 |0=>rfl
 |j+1=>by unfold digs;rw [List.length_cons,digs_length L j]
def packC (d:Int):List Int:=((placeC d).2.1+(placeC d).1/243^(placeC d).2.2)::digs (placeC d).1 (placeC d).2.2
theorem byteC_rng {v:Int} (h0:0≤v) (h1:v<243):1≤byteC v∧byteC v≤255:=by unfold byteC;repeat' split <;>omega
theorem place_rng {d:Int} (h0: -1114111≤d) (h1:d≤1114111):(placeC d).2.2≤3∧-1200000≤(placeC d).1∧(placeC d).1≤1200000∧33≤(placeC d).2.1+(placeC d).1/243^(placeC d).2.2∧(placeC d).2.1+(placeC d).1/243^(placeC d).2.2≤254:=by
 unfold placeC
 repeat' split
 all_goals
  simp only;refine ⟨by omega,by omega,by omega,?_,?_⟩ <;>omega
def u8s (xs:List Int):List Value:=xs.map fun x=> .int .u8 x
theorem u8s_length (xs:List Int):(u8s xs).length=xs.length:=by simp [u8s]
theorem pow_succ' (x:Int) (j:Nat):x/243^(j+1)=x/243^j/243:=by
 rw [Int.pow_succ,Int.ediv_ediv_of_nonneg (Int.pow_nonneg (by decide))]
theorem div_le {x:Int} {B:Int} (h0: -B≤x) (h1:x≤B) (hB:0≤B):∀j:Nat,-B≤x/243^j∧x/243^j≤B
 |0=>by simp;omega
 |j+1=>by
  have:=div_le h0 h1 hB j;rw [pow_succ']
  omega
theorem trunc_pos {x:Int} (h:0≤x):Int.tmod x 243=x%243∧Int.tdiv x 243=x/243:=⟨Int.tmod_eq_emod_of_nonneg h,Int.tdiv_eq_ediv_of_nonneg h⟩
theorem trunc_neg {x:Int} (h:x<0):(x%243=0→Int.tmod x 243=0∧Int.tdiv x 243=x/243)∧(x%243≠0→Int.tmod x 243=x%243-243∧Int.tdiv x 243=x/243+1):=by
 have h1:Int.tdiv x 243= -((-x)/243):=by
  have:x= -(-x):=by omega
  rw [this,Int.neg_tdiv,Int.tdiv_eq_ediv_of_nonneg (by omega),Int.neg_neg]
 have h2:Int.tmod x 243= -((-x)%243):=by
  have:x= -(-x):=by omega
  rw [this,Int.neg_tmod,Int.tmod_eq_emod_of_nonneg (by omega),Int.neg_neg]
 rw [h1,h2]
 omega
def PRel (w:World) (a t:Nat) (L:Int) (lv iv:Value) (wr:World):Prop:=
 ∃k j:Nat,k+j=t∧lv= .int .i64 (L/243^j)∧iv= .int .i64 k∧wr.heap[a]? =some (.cells (u8s (List.replicate (k+1) 0++digs L j)).toArray 5 (0,0))∧Below w.heap.size w wr
theorem pset {k:Nat} {x:Int} {D:List Int}:(u8s (List.replicate (k+1) 0++D)).toArray.setIfInBounds k (.int .u8 x)=(u8s (List.replicate k 0++x::D)).toArray:=by
 have:(List.replicate (k+1) (0:Int)++D)=List.replicate k 0++0::D:=by
  rw [List.replicate_succ',List.append_assoc];rfl
 rw [this]
 unfold u8s;rw [List.map_append,List.map_append,List.map_cons,List.map_cons]
 apply Array.toList_inj.1;simp [List.set_append]
theorem make_u8:∀t:Nat,t≤3→∀w:World,(Instr.makeSlice 68 (.int .i64 ((t:Int)+1)) (.int .i64 ((t:Int)+1))).run Tryz.prog w= .ok (.slice (some ⟨w.heap.size,0,none⟩) (t+1) (t+1)) (w.alloc (.cells (u8s (List.replicate (t+1) 0)).toArray 5))
 |0,_,w=>by kernel_rfl
 |1,_,w=>by kernel_rfl
 |2,_,w=>by kernel_rfl
 |3,_,w=>by kernel_rfl
 |_+4,h,_=>absurd h (by omega)
theorem bytes_of {w:World} {a:Nat} {l:List Int} (h:w.heap[a]? =some (.cells (u8s l).toArray 5 (0,0))):(convert 68 9 (.slice (some ⟨a,0,none⟩) l.length l.length)).run Tryz.prog w= .ok (.string (strOfNums l)) w:=by
 refine run_convert_bytes_arg _ _ 5 Tryz.underlying68 Tryz.underlying5 a 0 l.length l.length l rfl (fun i hi=>?_) _ Tryz.underlying9;rw [cell_of h]
 simp [u8s,List.getD_eq_getElem?_getD,hi]
theorem dcell {w:World} {a k:Nat} {l:List Int} (h:w.heap[a]? =some (.cells (u8s l).toArray 5 (0,0))) (hk:k<l.length):w.cell? ⟨a,k,none⟩=some (.int .u8 (l.getD k 0)):=by
 rw [cell_of h]
 simp [u8s,List.getD_eq_getElem?_getD,hk]
set_option maxRecDepth 100000 in
set_option maxHeartbeats 4000000 in
theorem pack_calls (d:Int) (w:World) (h0: -1114111≤d) (h1:d≤1114111):Calls Tryz.prog 193 #[.int .i64 d] w fun e w'=>e= .returned (.tuple #[.string (strOfNums (packC d)),.bool true])∧Below w.heap.size w w':=by
 have hp:=place_calls d w h0 h1;obtain ⟨r1,r2,r3,r4,r5⟩:=place_rng h0 h1;unfold packC;generalize placeC d=pc at hp r1 r2 r3 r4 r5 ⊢;obtain ⟨L,ld,t⟩:=pc;simp only at hp r1 r2 r3 r4 r5 ⊢;have k0:¬d< -1114111:=by omega
 have k1:¬1114111<d:=by omega
 have hmk:=make_u8 t r1;have HP:=Lib.hid hp;have HR:=Lib.hid (And.intro r4 r5)
 have HL:=Lib.hid (And.intro r2 r3)
 clear hp r4 r5 r2 r3;go_enter Tryz.func193,Tryz.ntmps193;go_wp2_with (go_at_call 195;refine HP.out.mono ?_;rintro e w1 ⟨rfl,rfl⟩)
 go_loopw [4,8] (fun l i wr=>PRel w w.heap.size t L l i wr) (fun _ i _=>(intOf i).toNat)
 case atStart=>
  refine ⟨t,0,by omega,by simp,rfl,?_,(Below.refl _ _).alloc (Nat.le_refl _) _⟩
  rw [heap_alloc_new]
  simp [digs]
 case round=>
  obtain ⟨k,j,hkj,rfl,rfl,hbk,hbl⟩:=hrel;have HBk:=Lib.hid hbk;have HBl:=Lib.hid hbl;have hxr:=div_le HL.out.1 HL.out.2 (by decide) j;have hdg:digs L (j+1)=byteC (L/243^j%243)::digs L j:=rfl;have hpw:=pow_succ' L j;have hre:j=t→33≤ld+L/243^j∧ld+L/243^j≤254:=fun h=>by rw [h];exact HR.out
  have hrs:j=t→L/243^t=L/243^j:=fun h=>by rw [h]
  generalize L/243^j=x at hxr hdg hpw hre hrs ⊢;have HD:=Lib.hid (And.intro hdg hpw)
  clear hbk hbl hdg hpw
  by_cases hk:k=0
  ·obtain rfl:j=t:=by omega
   have HB0:=Lib.hid (show wr.heap[w.heap.size]? =some (.cells (u8s (List.replicate (0+1) 0++digs L j)).toArray 5 (0,0)) by have:=HBk.out;rw [hk] at this;exact this)
   have hkn:¬(0:Int)<(k:Int):=by omega
   obtain ⟨y0,y1⟩:=hre rfl;have hxe:=hrs rfl;have hset:(wr.setCell ⟨w.heap.size,0,none⟩ (.int .u8 (ld+x))).heap[w.heap.size]? =some (.cells (u8s ((ld+x)::digs L j)).toArray 5 (0,0)):=by
    have:=pset (k:=0) (x:=ld+x) (D:=digs L j)
    rw [heap_setCell_same wr _ _ _ _ _ HB0.out,this]
    rfl
   have hcv:=bytes_of hset;rw [show ((ld+x)::digs L j).length=j+1 by rw [List.length_cons,digs_length]] at hcv;have hfz:=frozen_of HB0.out;have hcl:=dcell (k:=0) HB0.out (by rw [List.length_append,List.length_replicate];omega)
   have HXe:=Lib.hid hxe;clear hset hre hrs hxe hmk hk HBk;go_wp2_with fail;go_ret2;refine ⟨?_,HBl.out.setCell (Nat.le_refl _) _⟩
   rw [HXe.out]
   rfl
  ·obtain ⟨k,rfl⟩:∃n,k=n+1:=⟨k-1,by omega⟩
   have hk0:(0:Int)<((k+1:Nat):Int):=by omega
   have hby:=fun w=>byte_calls (x%243) w (by omega) (by omega)
   have HBy:=Lib.hid hby;have hfz:=frozen_of HBk.out;have hcl:=dcell (k:=k+1) HBk.out (by rw [List.length_append,List.length_replicate];omega)
   have hset:(wr.setCell ⟨w.heap.size,k+1,none⟩ (.int .u8 (byteC (x%243)))).heap[w.heap.size]? =some (.cells (u8s (List.replicate (k+1) 0++byteC (x%243)::digs L j)).toArray 5 (0,0)):=by rw [heap_setCell_same wr _ _ _ _ _ HBk.out,pset]
   have HSet:=Lib.hid hset;have hkt:k+1<t+1:=by omega
   clear hby hset hre hrs hmk;rcases Int.lt_or_le x 0 with hx|hx
   ·obtain ⟨n1,n2⟩:=trunc_neg hx
    by_cases hz:x%243=0
    ·obtain ⟨e1,e2⟩:=n1 hz
     rw [hz] at HBy;have HZ:=Lib.hid hz;clear n1 n2 hz;go_wp2_with fail;refine (HBy.out _).mono ?_;rintro e w1 ⟨rfl,rfl⟩
     have hz:=HZ.out;go_wp2_with fail;go_roundw
     case rel=>
      refine ⟨k,j+1,by omega,by rw [HD.out.2],by go_num,?_,HBl.out.setCell (Nat.le_refl _) _⟩
      rw [HD.out.1]
      have:=HSet.out;rw [hz] at this ⊢;exact this
     case measure=>simp [intOf]
    ·obtain ⟨e1,e2⟩:=n2 hz
     have e3:x%243-243<0:=by omega
     clear n1 n2 hz;go_wp2_with fail;refine (HBy.out _).mono ?_;rintro e w1 ⟨rfl,rfl⟩
     go_wp2_with fail;go_roundw
     case rel=>
      refine ⟨k,j+1,by omega,by rw [HD.out.2],by go_num,?_,HBl.out.setCell (Nat.le_refl _) _⟩
      rw [HD.out.1]
      exact HSet.out
     case measure=>simp [intOf]
   ·obtain ⟨e1,e2⟩:=trunc_pos hx
    have e3:¬x%243<0:=by omega
    go_wp2_with fail;refine (HBy.out _).mono ?_;rintro e w1 ⟨rfl,rfl⟩
    go_wp2_with fail;go_roundw
    case rel=>
     refine ⟨k,j+1,by omega,by rw [HD.out.2],by go_num,?_,HBl.out.setCell (Nat.le_refl _) _⟩
     rw [HD.out.1]
     exact HSet.out
    case measure=>simp [intOf]
end Out
end Go.Proofs.YtooiooledeblmaaGreat
