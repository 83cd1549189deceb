/- Words on worlds: a block that is known whole; all but one block is kept. -/
import Derived.WalkKit
import Derived.Below
import Derived.Laws.OwnMore
import Derived.Laws.Rows
import Derived.Deep.Draws
import Derived.Lib.Hide
import Derived.BigQuiet
import Derived.Deep.QuietTactic
namespace Go.Proofs.YtmjilfamjlnigaaGreat.Kit
open Go Go.RowKit
theorem cB{x y:Bool}(h:x=y):Ending.returned (.bool x)=Ending.returned (.bool y):=congrArg (fun x=>Ending.returned (.bool x)) h
theorem gD{α:Type _}{l:List α}{i:Nat}{a:α}:l.getD i a=l[i]?.getD a:=List.getD_eq_getElem?_getD
theorem eG{α:Type _}{l:List α}{i:Nat}(h:i<l.length):l[i]?=some l[i]:=List.getElem?_eq_getElem h
def Blk (w:World) (g:Nat) (t:TypeId) (cs:Array Value):Prop:=w.heap[g]?=some (.cells cs t (0,0))
def Kept (g:Nat) (w w':World):Prop :=
 w'.os=w.os∧w'.tape=w.tape∧w'.output=w.output∧w.heap.size≤w'.heap.size∧∀k,k<w.heap.size→k≠g→w'.heap[k]?=w.heap[k]?
section
variable {w w' w1 w2:World} {g:Nat} {t:TypeId} {cs:Array Value}
theorem Blk.lt (h:Blk w g t cs):g<w.heap.size:=by
 rcases Nat.lt_or_ge g w.heap.size with hlt | hge
 ·exact hlt
 ·unfold Blk at h
  rw[Array.getElem?_eq_none hge]at h
  cases h
theorem Blk.cell (h:Blk w g t cs) (i:Nat):w.cell? ⟨g,i,none⟩=cs[i]?:=by
 unfold Blk at h
 simp[World.cell?,h]
theorem Blk.frozen (h:Blk w g t cs) (i:Nat):w.frozen? ⟨g,i,none⟩=false:=by
 unfold Blk at h
 simp[World.frozen?,h]
theorem Blk.new (w:World) (t:TypeId) (cs:Array Value):Blk (w.alloc (.cells cs t)) w.heap.size t cs:=heap_alloc_new w _
theorem Blk.drew (h:Blk w g t cs):Blk w.drew g t cs:=h
theorem Blk.drewN (h:Blk w g t cs) (n:Nat):Blk (w.drewN n) g t cs:=h
theorem Blk.alloc (h:Blk w g t cs) (o:Obj):Blk (w.alloc o) g t cs:=(Below.heap_alloc w o g h.lt).trans h
theorem Blk.set (h:Blk w g t cs) (i:Nat) (u:Value):Blk (w.setCell ⟨g,i,none⟩ u) g t (cs.setIfInBounds i u):=by
 unfold Blk at h ⊢
 simp[World.setCell,Array.getElem?_modify,h]
theorem Blk.far (h:Blk w g t cs) {p:Addr} (hp:g≠p.block) (u:Value):Blk (w.setCell p u) g t cs:=(Below.heap_setCell w p u g hp).trans h
theorem Blk.below {B:Nat} (h:Blk w g t cs) (hb:Below B w w') (hg:g<B):Blk w' g t cs:=(hb.block g hg).trans h
theorem Blk.below' (h:Blk w g t cs) (hb:Below w.heap.size w w'):Blk w' g t cs:=h.below hb h.lt
theorem Blk.kept {g':Nat} (h:Blk w g t cs) (hk:Kept g' w w') (hg:g≠g'):Blk w' g t cs:=(hk.2.2.2.2 g h.lt hg).trans h
theorem Kept.refl (g:Nat) (w:World):Kept g w w:=⟨rfl,rfl,rfl,Nat.le_refl _,fun _ _ _=>rfl⟩
theorem Kept.trans (h:Kept g w w1) (k:Kept g w1 w2):Kept g w w2 :=
 ⟨k.1.trans h.1,k.2.1.trans h.2.1,k.2.2.1.trans h.2.2.1,Nat.le_trans h.2.2.2.1 k.2.2.2.1,fun i hi hg=>(k.2.2.2.2 i (Nat.lt_of_lt_of_le hi h.2.2.2.1) hg).trans (h.2.2.2.2 i hi hg)⟩
theorem Kept.of_below (g:Nat) (h:Below w.heap.size w w'):Kept g w w':=⟨h.os,h.tape,h.output,h.size,fun k hk _=>h.block k hk⟩
theorem Kept.drew (h:Kept g w w1):Kept g w w1.drew:=h
theorem Kept.drewN (h:Kept g w w1) (n:Nat):Kept g w (w1.drewN n):=h
theorem Kept.alloc (h:Kept g w w1) (o:Obj):Kept g w (w1.alloc o) :=
 h.trans ⟨rfl,rfl,rfl,by simp,fun k hk _=>Below.heap_alloc _ _ _ hk⟩
theorem Kept.set (h:Kept g w w1) (i:Nat) (u:Value):Kept g w (w1.setCell ⟨g,i,none⟩ u) :=
 h.trans ⟨rfl,rfl,rfl,by simp[World.setCell],fun k _ hg=>Below.heap_setCell _ _ _ _ hg⟩
theorem Kept.set_new (h:Kept g w w1) {p:Addr} (hp:w.heap.size≤p.block) (u:Value):Kept g w (w1.setCell p u) :=
 ⟨h.1,h.2.1,h.2.2.1,by simp[World.setCell];exact h.2.2.2.1,fun k hk hg=>(Below.heap_setCell _ _ _ _ (by omega)).trans (h.2.2.2.2 k hk hg)⟩
theorem Kept.size (h:Kept g w w'):w.heap.size≤w'.heap.size:=h.2.2.2.1
theorem Kept.cell (h:Kept g w w') {p:Addr} (hp:p.block<w.heap.size) (hg:p.block≠g):w'.cell? p=w.cell? p:=World.cell?_of_block (w:=w) (h.2.2.2.2 _ hp hg)
theorem Kept.frozen (h:Kept g w w') {p:Addr} (hp:p.block<w.heap.size) (hg:p.block≠g):w'.frozen? p=w.frozen? p:=World.frozen?_of_block (w:=w) (h.2.2.2.2 _ hp hg)
theorem Kept.below (h:Kept g w w') {B:Nat} (hB:B≤w.heap.size) (hg:B≤g):Below B w w' :=
 ⟨h.1,h.2.1,h.2.2.1,h.2.2.2.1,fun k hk=>h.2.2.2.2 k (by omega) (by omega)⟩
theorem Below.kept (h:Below w.heap.size w w1) (k:Kept g w1 w2) (hg:w.heap.size≤g):Below w.heap.size w w2 :=
 h.trans (k.below h.size hg)
theorem Below.then(h:Below w.heap.size w w1) (k:Below w1.heap.size w1 w2):Below w.heap.size w w2:=h.trans (k.mono h.size)
end
theorem Below_drewN {w:World} (B n:Nat):Below B w (w.drewN n):=⟨rfl,rfl,rfl,Nat.le_refl _,fun _ _=>rfl⟩
structure Cls (C:World→Prop) where
 w:World
 h:C w
theorem wp_region_cls (C:World→Prop) {P:Program} {id:Nat} {Q:Exit→Act→World→Prop} {a:Act} {w:World} {l:List Oper} (hC:C { w with drawn:=w.drawn+1 })
  (hm:P.follows .mixedOrders=true) (hB:Region.lexB .any l.toArray=true)
  (h:Nonempty (Cls C)→wpQuiet P l.toArray (fun w'=>∃p:Cls C,w'=p.w) (fun a'=>∀w',C w'→Q .normal a' w') l a):(Code.region id l.toArray true).wp P Q a w :=
 wp_region_quiet (C:=fun w'=>∃p:Cls C,w'=p.w) hm hB ⟨⟨_,hC⟩,rfl⟩ (by
  have e:(fun a'=>∀w',(∃p:Cls C,w'=p.w)→Q .normal a' w')=(fun a'=>∀w',C w'→Q .normal a' w'):=by
   funext a'
   apply propext
   constructor
   ·intro h w' hw
    exact h w' ⟨⟨w',hw⟩,rfl⟩
   ·rintro h w' ⟨p,rfl⟩
    exact h p.w p.h
  rw[e]
  simpa using h ⟨⟨_,hC⟩⟩)
theorem Calls.cls {C:World→Prop} {P:Program} {f:FuncId} {args:Array Value} {w:World} {v:Value} (h:Calls P f args w fun e w'=>e=.returned v∧C w') :
  Calls P f args w fun e w''=>e=.returned v∧∃p:Cls C,w''=p.w :=
 h.mono fun _ w' ⟨he,hc⟩=>⟨he,⟨w',hc⟩,rfl⟩
/-! A cell behind so many new blocks. -/
theorem cellA1 {w:World} {p:Addr} {v:Value} (h:w.cell? p=some v) (o1:Obj):(w.alloc o1).cell? p=some v:=(World.cell?_alloc_lt w o1 p (by
 rcases Nat.lt_or_ge p.block w.heap.size with hlt | hge
 ·exact hlt
 ·rw[World.cell?,Array.getElem?_eq_none hge]at h
  cases h)).trans h
theorem Blk.newAt {w:World} {n:Nat} (h:w.heap.size=n) (t:TypeId) (cs:Array Value):Blk (w.alloc (.cells cs t)) n t cs:=by subst h;exact Blk.new w t cs
theorem Below.dn {B n:Nat} {w w1:World} (h:Below B w w1):Below B w (w1.drewN n):=⟨h.os,h.tape,h.output,h.size,h.block⟩
theorem Below.al {w w1:World} (h:Below w.heap.size w w1) (o:Obj):Below w.heap.size w (w1.alloc o):=h.alloc h.size o
theorem sizeA (w:World) (o:Obj):(w.alloc o).heap.size=w.heap.size+1:=by simp
theorem Blk.cls {w:World} {g:Nat} {t:TypeId} {cs:Array Value} (h:Blk w g t cs) (i:Nat) (p:Cls (Below w.heap.size w)):p.w.cell? ⟨g,i,none⟩=cs[i]?:=(h.below' p.h).cell i
theorem Kept.setN {w w1:World} {g b o:Nat} (h:Kept g w w1) (hp:w.heap.size≤b) (u:Value):Kept g w (w1.setCell ⟨b,o,none⟩ u):=Kept.set_new h hp u
theorem Below.setN {w w1:World} {b o:Nat} (h:Below w.heap.size w w1) (hp:w.heap.size≤b) (u:Value):Below w.heap.size w (w1.setCell ⟨b,o,none⟩ u):=h.setCell hp u
theorem cellS {w:World} {b o b' o':Nat} {u v:Value} (h:w.cell? ⟨b',o',none⟩=some v) (hne:b'≠b):(w.setCell ⟨b,o,none⟩ u).cell? ⟨b',o',none⟩=some v :=
 (World.cell?_setCell_other w _ _ u (by rintro e;injection e with e;exact hne e.symm)).trans h
theorem Blk.farN {w:World} {g b o:Nat} {t:TypeId} {cs:Array Value} (h:Blk w g t cs) (hne:g≠b) (u:Value):Blk (w.setCell ⟨b,o,none⟩ u) g t cs:=h.far hne u
theorem Blk.d {w:World} {g:Nat} {t:TypeId} {cs:Array Value} (h:Blk w g t cs):Blk w.drew g t cs:=h
theorem Kept.d {w w1:World} {g:Nat} (h:Kept g w w1):Kept g w w1.drew:=h
theorem Below.d {B:Nat} {w w1:World} (h:Below B w w1):Below B w w1.drew:=h.drew
theorem Blk.grown {w w':World} {g:Nat} {t:TypeId} {cs:Array Value} {row:Option Nat} (h:Blk w g t cs) (hb:w.grownBy w' row) (hne:row≠some g):Blk w' g t cs:=(hb.block g h.lt (Ne.symm hne)).trans h
theorem cells4 {w:World}{g:Nat}{t:TypeId}{c0 c1 c2 c3:Value}(h:Blk w g t #[c0,c1,c2,c3]):w.cell? ⟨g,0,none⟩=some c0∧w.cell? ⟨g,1,none⟩=some c1∧w.cell? ⟨g,2,none⟩=some c2∧w.cell? ⟨g,3,none⟩=some c3:=⟨h.cell 0,h.cell 1,h.cell 2,h.cell 3⟩
theorem cells6 {w:World}{g:Nat}{t:TypeId}{c0 c1 c2 c3 c4 c5:Value}(h:Blk w g t #[c0,c1,c2,c3,c4,c5]):w.cell? ⟨g,0,none⟩=some c0∧w.cell? ⟨g,1,none⟩=some c1∧w.cell? ⟨g,2,none⟩=some c2∧w.cell? ⟨g,3,none⟩=some c3∧w.cell? ⟨g,4,none⟩=some c4∧w.cell? ⟨g,5,none⟩=some c5:=⟨h.cell 0,h.cell 1,h.cell 2,h.cell 3,h.cell 4,h.cell 5⟩
theorem cells9 {w:World}{g:Nat}{t:TypeId}{c0 c1 c2 c3 c4 c5 c6 c7 c8:Value}(h:Blk w g t #[c0,c1,c2,c3,c4,c5,c6,c7,c8]):w.cell? ⟨g,0,none⟩=some c0∧w.cell? ⟨g,1,none⟩=some c1∧w.cell? ⟨g,2,none⟩=some c2∧w.cell? ⟨g,3,none⟩=some c3∧w.cell? ⟨g,4,none⟩=some c4∧w.cell? ⟨g,5,none⟩=some c5∧w.cell? ⟨g,6,none⟩=some c6∧w.cell? ⟨g,7,none⟩=some c7∧w.cell? ⟨g,8,none⟩=some c8:=⟨h.cell 0,h.cell 1,h.cell 2,h.cell 3,h.cell 4,h.cell 5,h.cell 6,h.cell 7,h.cell 8⟩
theorem cells10 {w:World}{g:Nat}{t:TypeId}{c0 c1 c2 c3 c4 c5 c6 c7 c8 c9:Value}(h:Blk w g t #[c0,c1,c2,c3,c4,c5,c6,c7,c8,c9]):w.cell? ⟨g,0,none⟩=some c0∧w.cell? ⟨g,1,none⟩=some c1∧w.cell? ⟨g,2,none⟩=some c2∧w.cell? ⟨g,3,none⟩=some c3∧w.cell? ⟨g,4,none⟩=some c4∧w.cell? ⟨g,5,none⟩=some c5∧w.cell? ⟨g,6,none⟩=some c6∧w.cell? ⟨g,7,none⟩=some c7∧w.cell? ⟨g,8,none⟩=some c8∧w.cell? ⟨g,9,none⟩=some c9:=⟨h.cell 0,h.cell 1,h.cell 2,h.cell 3,h.cell 4,h.cell 5,h.cell 6,h.cell 7,h.cell 8,h.cell 9⟩
theorem cells11 {w:World}{g:Nat}{t:TypeId}{c0 c1 c2 c3 c4 c5 c6 c7 c8 c9 c10:Value}(h:Blk w g t #[c0,c1,c2,c3,c4,c5,c6,c7,c8,c9,c10]):w.cell? ⟨g,0,none⟩=some c0∧w.cell? ⟨g,1,none⟩=some c1∧w.cell? ⟨g,2,none⟩=some c2∧w.cell? ⟨g,3,none⟩=some c3∧w.cell? ⟨g,4,none⟩=some c4∧w.cell? ⟨g,5,none⟩=some c5∧w.cell? ⟨g,6,none⟩=some c6∧w.cell? ⟨g,7,none⟩=some c7∧w.cell? ⟨g,8,none⟩=some c8∧w.cell? ⟨g,9,none⟩=some c9∧w.cell? ⟨g,10,none⟩=some c10:=⟨h.cell 0,h.cell 1,h.cell 2,h.cell 3,h.cell 4,h.cell 5,h.cell 6,h.cell 7,h.cell 8,h.cell 9,h.cell 10⟩
theorem cells12 {w:World}{g:Nat}{t:TypeId}{c0 c1 c2 c3 c4 c5 c6 c7 c8 c9 c10 c11:Value}(h:Blk w g t #[c0,c1,c2,c3,c4,c5,c6,c7,c8,c9,c10,c11]):w.cell? ⟨g,0,none⟩=some c0∧w.cell? ⟨g,1,none⟩=some c1∧w.cell? ⟨g,2,none⟩=some c2∧w.cell? ⟨g,3,none⟩=some c3∧w.cell? ⟨g,4,none⟩=some c4∧w.cell? ⟨g,5,none⟩=some c5∧w.cell? ⟨g,6,none⟩=some c6∧w.cell? ⟨g,7,none⟩=some c7∧w.cell? ⟨g,8,none⟩=some c8∧w.cell? ⟨g,9,none⟩=some c9∧w.cell? ⟨g,10,none⟩=some c10∧w.cell? ⟨g,11,none⟩=some c11:=⟨h.cell 0,h.cell 1,h.cell 2,h.cell 3,h.cell 4,h.cell 5,h.cell 6,h.cell 7,h.cell 8,h.cell 9,h.cell 10,h.cell 11⟩
theorem bl1{w:World}{o:Obj}:Below w.heap.size w (w.alloc o):=Kit.Below.al (Below.refl _ _) _
theorem bl2{w:World}{o o':Obj}:Below w.heap.size w ((w.alloc o).alloc o'):=Kit.Below.al bl1 _
end Go.Proofs.YtmjilfamjlnigaaGreat.Kit
namespace Go.Proofs.YtmjilfamjlnigaaGreat.Kit
open Go Go.RowKit
theorem cellsA4 {C:World→Prop}{g:Nat}{t:TypeId}{c0 c1 c2 c3:Value}(h:∀ p:Cls C,Blk p.w g t #[c0,c1,c2,c3]):(∀ p:Cls C,p.w.cell? ⟨g,0,none⟩=some c0)∧(∀ p:Cls C,p.w.cell? ⟨g,1,none⟩=some c1)∧(∀ p:Cls C,p.w.cell? ⟨g,2,none⟩=some c2)∧(∀ p:Cls C,p.w.cell? ⟨g,3,none⟩=some c3):=⟨fun p=>(h p).cell 0,fun p=>(h p).cell 1,fun p=>(h p).cell 2,fun p=>(h p).cell 3⟩
theorem cellsA5 {C:World→Prop}{g:Nat}{t:TypeId}{c0 c1 c2 c3 c4:Value}(h:∀ p:Cls C,Blk p.w g t #[c0,c1,c2,c3,c4]):(∀ p:Cls C,p.w.cell? ⟨g,0,none⟩=some c0)∧(∀ p:Cls C,p.w.cell? ⟨g,1,none⟩=some c1)∧(∀ p:Cls C,p.w.cell? ⟨g,2,none⟩=some c2)∧(∀ p:Cls C,p.w.cell? ⟨g,3,none⟩=some c3)∧(∀ p:Cls C,p.w.cell? ⟨g,4,none⟩=some c4):=⟨fun p=>(h p).cell 0,fun p=>(h p).cell 1,fun p=>(h p).cell 2,fun p=>(h p).cell 3,fun p=>(h p).cell 4⟩
theorem cellsA6 {C:World→Prop}{g:Nat}{t:TypeId}{c0 c1 c2 c3 c4 c5:Value}(h:∀ p:Cls C,Blk p.w g t #[c0,c1,c2,c3,c4,c5]):(∀ p:Cls C,p.w.cell? ⟨g,0,none⟩=some c0)∧(∀ p:Cls C,p.w.cell? ⟨g,1,none⟩=some c1)∧(∀ p:Cls C,p.w.cell? ⟨g,2,none⟩=some c2)∧(∀ p:Cls C,p.w.cell? ⟨g,3,none⟩=some c3)∧(∀ p:Cls C,p.w.cell? ⟨g,4,none⟩=some c4)∧(∀ p:Cls C,p.w.cell? ⟨g,5,none⟩=some c5):=⟨fun p=>(h p).cell 0,fun p=>(h p).cell 1,fun p=>(h p).cell 2,fun p=>(h p).cell 3,fun p=>(h p).cell 4,fun p=>(h p).cell 5⟩
theorem cellsA8 {C:World→Prop}{g:Nat}{t:TypeId}{c0 c1 c2 c3 c4 c5 c6 c7:Value}(h:∀ p:Cls C,Blk p.w g t #[c0,c1,c2,c3,c4,c5,c6,c7]):(∀ p:Cls C,p.w.cell? ⟨g,0,none⟩=some c0)∧(∀ p:Cls C,p.w.cell? ⟨g,1,none⟩=some c1)∧(∀ p:Cls C,p.w.cell? ⟨g,2,none⟩=some c2)∧(∀ p:Cls C,p.w.cell? ⟨g,3,none⟩=some c3)∧(∀ p:Cls C,p.w.cell? ⟨g,4,none⟩=some c4)∧(∀ p:Cls C,p.w.cell? ⟨g,5,none⟩=some c5)∧(∀ p:Cls C,p.w.cell? ⟨g,6,none⟩=some c6)∧(∀ p:Cls C,p.w.cell? ⟨g,7,none⟩=some c7):=⟨fun p=>(h p).cell 0,fun p=>(h p).cell 1,fun p=>(h p).cell 2,fun p=>(h p).cell 3,fun p=>(h p).cell 4,fun p=>(h p).cell 5,fun p=>(h p).cell 6,fun p=>(h p).cell 7⟩
theorem cellsA10 {C:World→Prop}{g:Nat}{t:TypeId}{c0 c1 c2 c3 c4 c5 c6 c7 c8 c9:Value}(h:∀ p:Cls C,Blk p.w g t #[c0,c1,c2,c3,c4,c5,c6,c7,c8,c9]):(∀ p:Cls C,p.w.cell? ⟨g,0,none⟩=some c0)∧(∀ p:Cls C,p.w.cell? ⟨g,1,none⟩=some c1)∧(∀ p:Cls C,p.w.cell? ⟨g,2,none⟩=some c2)∧(∀ p:Cls C,p.w.cell? ⟨g,3,none⟩=some c3)∧(∀ p:Cls C,p.w.cell? ⟨g,4,none⟩=some c4)∧(∀ p:Cls C,p.w.cell? ⟨g,5,none⟩=some c5)∧(∀ p:Cls C,p.w.cell? ⟨g,6,none⟩=some c6)∧(∀ p:Cls C,p.w.cell? ⟨g,7,none⟩=some c7)∧(∀ p:Cls C,p.w.cell? ⟨g,8,none⟩=some c8)∧(∀ p:Cls C,p.w.cell? ⟨g,9,none⟩=some c9):=⟨fun p=>(h p).cell 0,fun p=>(h p).cell 1,fun p=>(h p).cell 2,fun p=>(h p).cell 3,fun p=>(h p).cell 4,fun p=>(h p).cell 5,fun p=>(h p).cell 6,fun p=>(h p).cell 7,fun p=>(h p).cell 8,fun p=>(h p).cell 9⟩
theorem cellsA11 {C:World→Prop}{g:Nat}{t:TypeId}{c0 c1 c2 c3 c4 c5 c6 c7 c8 c9 c10:Value}(h:∀ p:Cls C,Blk p.w g t #[c0,c1,c2,c3,c4,c5,c6,c7,c8,c9,c10]):(∀ p:Cls C,p.w.cell? ⟨g,0,none⟩=some c0)∧(∀ p:Cls C,p.w.cell? ⟨g,1,none⟩=some c1)∧(∀ p:Cls C,p.w.cell? ⟨g,2,none⟩=some c2)∧(∀ p:Cls C,p.w.cell? ⟨g,3,none⟩=some c3)∧(∀ p:Cls C,p.w.cell? ⟨g,4,none⟩=some c4)∧(∀ p:Cls C,p.w.cell? ⟨g,5,none⟩=some c5)∧(∀ p:Cls C,p.w.cell? ⟨g,6,none⟩=some c6)∧(∀ p:Cls C,p.w.cell? ⟨g,7,none⟩=some c7)∧(∀ p:Cls C,p.w.cell? ⟨g,8,none⟩=some c8)∧(∀ p:Cls C,p.w.cell? ⟨g,9,none⟩=some c9)∧(∀ p:Cls C,p.w.cell? ⟨g,10,none⟩=some c10):=⟨fun p=>(h p).cell 0,fun p=>(h p).cell 1,fun p=>(h p).cell 2,fun p=>(h p).cell 3,fun p=>(h p).cell 4,fun p=>(h p).cell 5,fun p=>(h p).cell 6,fun p=>(h p).cell 7,fun p=>(h p).cell 8,fun p=>(h p).cell 9,fun p=>(h p).cell 10⟩
end Go.Proofs.YtmjilfamjlnigaaGreat.Kit
namespace Go.Proofs.YtmjilfamjlnigaaGreat.SrcP
open Go
def M64:Nat:=18446744073709551616
structure Node where
 op:Int
 val:Nat
 a:Int
 b:Int
structure Act where
 op:Int
 dst:Int
 base:Int
 size:Int
 index:List Node
 e:List Node
 f:List Node
 mode:Int
 to:Int
 line:Int
 col:Int
structure Thread where
 locals:Int
 acts:List Act
structure Prog where
 cells:Int
 threads:List Thread
def truth (b:Bool):Nat:=if b then 1 else 0
def one (op:Int) (a:Nat):Nat:=if op=3 then(M64-a) % M64 else if op=4 then M64-1-a else truth (a == 0)
def two (op:Int) (a b:Nat):Nat :=
 if op=6 then a*b % M64
 else if op=7 then(a+b) % M64
 else if op=8 then(a+(M64-b)) % M64
 else if op=9 then a*2 ^ (b % 64) % M64
 else if op=10 then a / 2 ^ (b % 64)
 else if op=11 then a &&& b
 else if op=12 then a ^^^ b
 else if op=13 then a ||| b
 else if op=14 then truth (a == b)
 else if op=15 then truth (a != b)
 else if op=16 then truth (decide (a<b))
 else if op=17 then truth (decide (a≤b))
 else if op=18 then truth (decide (b<a))
 else truth (decide (b≤a))
def nodeV (locals v:List Nat) (n:Node):Nat :=
 if n.op=1 then n.val
 else if n.op=2 then locals.getD n.val 0
 else if n.op≤5 then one n.op (v.getD n.a.toNat 0)
 else two n.op (v.getD n.a.toNat 0) (v.getD n.b.toNat 0)
def evalL (locals:List Nat):List Node→List Nat→List Nat
 | [],v=>v
 | n :: l,v=>evalL locals l (v++[nodeV locals v n])
def value (e:List Node) (locals:List Nat):Nat:=(evalL locals e []).getLastD 0
/-! What a whole program is. -/
def uses (l:List Node) (i:Nat):Nat:=l.countP (fun n=>decide (3≤n.op)&&decide (n.a=(i:Int)))+l.countP (fun n=>decide (6≤n.op)&&decide (n.b=(i:Int)))
def onceB (l:List Node):Bool:=(List.range l.length).all fun i=>uses l i == if i+1<l.length then 1 else 0
def nodeOk (locals:Int) (i:Nat) (n:Node):Bool :=
 if n.op=1 then n.a == 0&&n.b == 0
 else if n.op=2 then n.a == 0&&decide ((n.val:Int)<locals)&&n.b == 0
 else if 3≤n.op∧n.op≤5 then decide (0≤n.a∧n.a<i)&&(n.b == 0&&n.val == 0)
 else decide (0≤n.a∧n.a<i)&&(decide (0≤n.b∧n.b<i)&&(decide (6≤n.op∧n.op≤19)&&n.val == 0))
def nodesOk (locals:Int):Nat→List Node→Bool
 | _,[]=>true
 | i,n :: l=>nodeOk locals i n&&nodesOk locals (i+1) l
def exprOk (l:List Node) (locals:Int):Bool:=nodesOk locals 0 l&&(decide (0<l.length∧l.length≤65536)&&onceB l)
def mayB (op mode:Int):Bool :=
 if op=2 then mode == 1 || mode == 2 || mode == 5
 else if op=3 then mode == 1 || mode == 3 || mode == 5
 else if op=4∨op=5∨op=6 then decide (1≤mode∧mode≤5)
 else if op=7 then decide (2≤mode∧mode≤5)
 else mode == 0
def hasDst (op:Int):Bool:=op == 1 || op == 2 || op == 4 || op == 5 || op == 6
def hasPlace (op:Int):Bool:=op == 2 || op == 3 || op == 4 || op == 5 || op == 6
def hasE (op:Int):Bool:=op == 1 || op == 3 || op == 4 || op == 5 || op == 6 || op == 8 || op == 10
def hasF (op:Int):Bool:=op == 6
def hasTo (op:Int):Bool:=op == 9 || op == 10
def placeOk (cells locals:Int) (a:Act):Bool :=
 if a.size<0∨1024<a.size∨(a.size.toNat &&& (a.size-1).toNat)≠0∨a.base<0∨cells-max 1 a.size<a.base then false
 else(a.size == 0&&a.index.isEmpty) ||(decide (0<a.size)&&exprOk a.index locals)
def actOk (cells locals:Int) (n:Nat) (a:Act):Bool :=
 decide (1≤a.op∧a.op≤10)&&mayB a.op a.mode
&&(if hasDst a.op then decide (0≤a.dst∧a.dst<locals)else a.dst == 0)
&&(if hasPlace a.op then placeOk cells locals a else a.base == 0&&a.size == 0&&a.index.isEmpty)
&&(hasE a.op == !a.e.isEmpty)&&(hasF a.op == !a.f.isEmpty)&&(!hasE a.op || exprOk a.e locals)&&(!hasF a.op || exprOk a.f locals)
&&(if hasTo a.op then decide (0≤a.to∧a.to≤n)else a.to == 0)
def threadOk (cells:Int) (t:Thread):Bool:=decide (0≤t.locals∧t.locals≤24∧t.acts.length≤65536)&&t.acts.all (actOk cells t.locals t.acts.length)
def wholeP (p:Prog):Bool:=decide (0≤p.cells∧p.cells≤4096∧p.threads.length≤64)&&p.threads.all (threadOk p.cells)
/-! The machine. -/
structure Want where
 what:Int
 loc:Int
 mode:Int
 val:Nat
 ex:Bool
 one:Bool
def Want.zero:Want:=⟨0,0,0,0,false,false⟩
structure Mch where
 acts:List Act
 at_:Nat
 locals:List Nat
 now:Want
 asked:Bool
 old:Nat
 opn:Bool
def locS (a:Act) (locals:List Nat):Int:=if a.size=0 then a.base else a.base+(value a.index locals % a.size.toNat:Nat)
def reading (mode:Int):Int:=if mode=3 then 1 else if mode=4 then 2 else mode
def writing (mode:Int):Int:=if mode=2 then 1 else if mode=4 then 3 else mode
def ownB (a:Act):Bool:=a.op == 1 || a.op == 9 || a.op == 10
def ownS (m:Mch) (a:Act):Mch :=
 if a.op=1 then { m with locals:=m.locals.set a.dst.toNat (value a.e m.locals),at_:=m.at_+1 }
 else if a.op=9 then { m with at_:=a.to.toNat }
 else if value a.e m.locals=0 then { m with at_:=a.to.toNat }else { m with at_:=m.at_+1 }
def wantS (m:Mch) (a:Act):Want :=
 if a.op=2 then⟨1,locS a m.locals,a.mode,0,false,false⟩
 else if a.op=3 then⟨2,locS a m.locals,a.mode,value a.e m.locals,false,false⟩
 else if a.op=7 then⟨3,0,a.mode,0,false,false⟩
 else if a.op=8 then⟨4,0,0,value a.e m.locals,false,false⟩
 else if m.opn then⟨2,locS a m.locals,writing a.mode,if a.op=5 then(value a.e m.locals+m.old) % M64 else if a.op=6 then value a.f m.locals else value a.e m.locals,true,false⟩
 else⟨1,locS a m.locals,reading a.mode,0,true,false⟩
def nextL:Nat→Mch→Mch
 | 0,m=>match m.acts[m.at_]? with
  | none=>{ m with now:=⟨5,0,0,0,false,false⟩ }
  | some a=>if ownB a then { m with now:=⟨6,0,0,0,false,false⟩ }else { m with now:=wantS m a }
 | k+1,m=>match m.acts[m.at_]? with
  | none=>{ m with now:=⟨5,0,0,0,false,false⟩ }
  | some a=>if ownB a then nextL k (ownS m a)else { m with now:=wantS m a }
def nextS (m:Mch):Mch:=if m.asked∧m.now.what≠6 then m else nextL 100000 { m with asked:=true }
def feedS (m:Mch) (v:Nat):Mch :=
 match m.acts[m.at_]? with
 | none=>{ m with asked:=false }
 | some a =>
  if m.now.what=1∧m.now.ex=true∧(a.op≠6∨value a.e m.locals=v)then { m with asked:=false,old:=v,opn:=true }
  else
   let old:=if m.now.what=1∧m.now.ex=true then v else m.old
   if m.now.ex=true∧m.opn=true then { m with asked:=false,old:=old,opn:=false,locals:=m.locals.set a.dst.toNat old,at_:=m.at_+1 }
   else if m.now.what=1 then { m with asked:=false,old:=old,locals:=m.locals.set a.dst.toNat v,at_:=m.at_+1 }
   else { m with asked:=false,old:=old,at_:=m.at_+1 }
end Go.Proofs.YtmjilfamjlnigaaGreat.SrcP
