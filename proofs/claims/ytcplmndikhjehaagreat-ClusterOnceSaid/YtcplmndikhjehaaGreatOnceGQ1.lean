/-
  Texts of a proof as one.
-/
import Derived.Test.YtcplmndikhjehaaGreatRows
import Derived.WalkKit
import Derived.ProofKit
import Derived.OpenShut
import Derived.OrdersHeld
import Derived.Scope
import Derived.Deep.Slices
import Derived.ChangeArms
set_option linter.unusedVariables false
set_option linter.unusedSimpArgs false
namespace Go.Proofs.YtcplmndikhjehaaGreat.clusterOnceLaw
open Go
theorem j0:laidOutB Tryz.prog=true:=by kernel_rfl
theorem j1:(Rows.clusterOnceRow.inPlace==Tryz.prog.inPlace 3)=true:=by kernel_rfl
theorem j2:(Rows.clusterOnceRow.unfollowed==Tryz.prog.unfollowed 3)=true:=by kernel_rfl
theorem j3:(Rows.clusterOnceRow.recurses==Tryz.prog.recurses 3)=true:=by kernel_rfl
theorem j4:(Rows.clusterOnceRow.named==Tryz.prog.varsNamed 3)=true:=by kernel_rfl
theorem j5:(Rows.clusterOnceRow.plainKeys==Tryz.prog.plainKeys)=true:=by kernel_rfl
theorem j6:mapsRowed Tryz.prog=true:=by kernel_rfl
theorem j7:Tryz.prog.stopsHeard=true:=by kernel_rfl
theorem j8:Tryz.prog.mayEnter=true:=by kernel_rfl
theorem j9:(Rows.clusterOnceRow.lifted==Tryz.prog.liftsFinal)=true:=by kernel_rfl
theorem closed:joinedFacts Tryz.prog 3 Tryz.f3 Rows.clusterOnceSpec Rows.clusterOnceRow=true:=by
 unfold joinedFacts;rw[j0,j1,j2,j3,j4,j5,j6,j7,j8,j9];kernel_rfl
end Go.Proofs.YtcplmndikhjehaaGreat.clusterOnceLaw
namespace Go.Sl
open Go
abbrev Hp:=Nat→Option Obj
abbrev aC:=Hp→Prop
def Sub(h k:Hp):Prop:=∀b o,h b=some o→k b=some o
def Kl(h k:Hp):Prop:=∀b o o',h b=some o→k b=some o'→False
theorem Sub.refl(h:Hp):Sub h h:=fun _ _ e=>e
theorem Sub.trans{h k l:Hp}(a:Sub h k)(b:Sub k l):Sub h l:=fun x o e=>b x o (a x o e)
theorem Kl.symm{h k:Hp}(d:Kl h k):Kl k h:=fun b o o' e e'=>d b o' o e' e
theorem Kl.mono{h h' k k':Hp}(d:Kl h k)(a:Sub h' h)(b:Sub k' k):Kl h' k':=fun x o o' e e'=>d x o o' (a x o e) (b x o' e')
def union(h k:Hp):Hp:=fun b=>match h b with|some o=>some o|none=>k b
theorem union_left(h k:Hp):Sub h (union h k):=fun b o e=>by simp[union,e]
theorem union_right{h k:Hp}(d:Kl h k):Sub k (union h k):=fun b o e=>by
 unfold union;cases hb:h b with
 |none=>exact e
 |some o'=>exact(d b o' o hb e).elim
theorem td{h k l:Hp}(a:Sub h l)(b:Sub k l):Sub (union h k) l:=fun x o e=>by
 unfold union at e;cases hx:h x with
 |none=>rw[hx] at e;exact b x o e
 |some o'=>rw[hx] at e;cases e;exact a x o hx
theorem tf{h k l:Hp}(a:Kl h l)(b:Kl k l):Kl (union h k) l:=fun x o o' e e'=>by
 unfold union at e;cases hx:h x with
 |none=>rw[hx] at e;exact b x o o' e e'
 |some o''=>exact a x o'' o' hx e'
def Sat:List aC→Hp→Prop
 |[],_=>True
 |A::L,h=>∃h1 h2,Kl h1 h2∧Sub h1 h∧Sub h2 h∧A h1∧Sat L h2
theorem Sat.mono{L:List aC}{h k:Hp}(s:Sub h k)(H:Sat L h):Sat L k:=by
 cases L with
 |nil=>trivial
 | cons A L=>
   obtain⟨h1,h2,d,s1,s2,a,r⟩:=H;exact⟨h1,h2,d,s1.trans s,s2.trans s,a,r⟩
theorem Sat.cons{A:aC}{L:List aC}{h1 h2 h:Hp}(d:Kl h1 h2)(s1:Sub h1 h)(s2:Sub h2 h)(a:A h1)(r:Sat L h2):Sat (A::L) h:=⟨h1,h2,d,s1,s2,a,r⟩
theorem Sat.tail{A:aC}{L:List aC}{h:Hp}(H:Sat (A::L) h):Sat L h:=by
 obtain⟨h1,h2,d,s1,s2,a,r⟩:=H;exact r.mono s2
theorem Sat.swap{A B:aC}{L:List aC}{h:Hp}(H:Sat (A::B::L) h):Sat (B::A::L) h:=by
 obtain⟨h1,h2,d,s1,s2,a,k1,k2,d',t1,t2,b,r⟩:=H;refine⟨k1,union h1 k2, ?_,t1.trans s2,td s1 (t2.trans s2),b,h1,k2,d.mono (Sub.refl _) t2,union_left _ _,union_right (d.mono (Sub.refl _) t2),a,r⟩;exact(tf (d.mono (Sub.refl _) t1) d'.symm).symm
theorem Sat.imp{A B:aC}{L:List aC}{h:Hp}(i:∀h,A h→B h)(H:Sat (A::L) h):Sat (B::L) h:=by
 obtain⟨h1,h2,d,s1,s2,a,r⟩:=H;exact⟨h1,h2,d,s1,s2,i _ a,r⟩
theorem Sat.aI{A:aC}{L L':List aC}{h:Hp}(i:∀h,Sat L h→Sat L' h)(H:Sat (A::L) h):Sat (A::L') h:=by
 obtain⟨h1,h2,d,s1,s2,a,r⟩:=H;exact⟨h1,h2,d,s1,s2,a,i _ r⟩
theorem Sat.perm{L L':List aC}(p:L.Perm L'):∀{h:Hp},Sat L h→Sat L' h:=by
 induction p with
 |nil=>exact fun H=>H
 |cons A _ ih=>exact fun H=>H.aI fun _=>ih
 |swap A B L=>exact fun H=>H.swap
 |trans _ _ ih1 ih2=>exact fun H=>ih2 (ih1 H)
theorem Sat.append{L M:List aC}:∀{h:Hp},Sat (L++M) h→∃h1 h2,Kl h1 h2∧Sub h1 h∧Sub h2 h∧Sat L h1∧Sat M h2:=by
 induction L with
 |nil=>exact fun{h} H=>⟨fun _=>none,h,(fun _ _ _ e _=>by cases e),(fun _ _ e=>by cases e),Sub.refl _,trivial,H⟩
 | cons A L ih=>
   intro h H;obtain⟨h1,h2,d,s1,s2,a,r⟩:=H;obtain⟨k1,k2,d',t1,t2,l,m⟩:=ih r;refine⟨union h1 k1,k2,tf (d.mono (Sub.refl _) t2) d',td s1 (t1.trans s2),t2.trans s2,⟨h1,k1,d.mono (Sub.refl _) t1,union_left _ _,union_right (d.mono (Sub.refl _) t1),a,l⟩,m⟩
theorem Sat.FC{L M:List aC}:∀{h h1 h2:Hp},Kl h1 h2→Sub h1 h→Sub h2 h→Sat L h1→Sat M h2→Sat (L++M) h:=by
 induction L with
 |nil=>exact fun d s1 s2 _ m=>m.mono s2
 | cons A L ih=>
   intro h h1 h2 d s1 s2 l m;obtain⟨k1,k2,d',t1,t2,a,r⟩:=l;refine⟨k1,union k2 h2,(tf d'.symm (d.symm.mono (Sub.refl _) t1)).symm,t1.trans s1,td (t2.trans s1) s2,a, ?_⟩;exact ih (d.mono t2 (Sub.refl _)) (union_left _ _) (union_right (d.mono t2 (Sub.refl _))) r m
def star(L:List aC):aC:=Sat L
theorem Sat.zS{L M:List aC}{h:Hp}(H:Sat (star L::M) h):Sat (L++M) h:=by
 obtain⟨h1,h2,d,s1,s2,a,r⟩:=H;exact Sat.FC d s1 s2 a r
theorem Sat.uv{L M:List aC}{h:Hp}(H:Sat (L++M) h):Sat (star L::M) h:=by
 obtain⟨h1,h2,d,s1,s2,a,r⟩:=Sat.append H;exact⟨h1,h2,d,s1,s2,a,r⟩
theorem Sat.fact{A:aC}{L:List aC}{h:Hp}(H:Sat (A::L) h):∃h1,Sub h1 h∧A h1:=by
 obtain⟨h1,h2,d,s1,s2,a,r⟩:=H;exact⟨h1,s1,a⟩
def vf(b:Nat)(o:Obj):aC:=fun h=>h b=some o
def BY(A:aC):Prop:=∀h k,Sub h k→A h→A k
theorem FD(b:Nat)(o:Obj):BY (vf b o):=fun _ _ s e=>s b o e
def aB(L:List aC)(A:aC):Prop:=∀h,Sat L h→A h
theorem aB.cons{L:List aC}{A B:aC}(m:BY A)(g:aB L A):aB (B::L) A:=fun h H=>by
 obtain⟨h1,h2,d,s1,s2,a,r⟩:=H;exact m _ _ s2 (g _ r)
theorem aB.head{L:List aC}{A B:aC}(m:BY A)(i:∀h,B h→A h):aB (B::L) A:=fun h H=>by
 obtain⟨h1,h2,d,s1,s2,a,r⟩:=H;exact m _ _ s1 (i _ a)
theorem CE{L:List aC}:∀(i:Nat) {A:aC},L[i]? =some A→L.Perm (A::L.eraseIdx i):=by
 induction L with
 |nil=>intro i A h;simp at h
 | cons B L ih=>
   intro i A h;cases i with
   |zero=>simp at h;subst h;exact List.Perm.refl _
   | succ i=>
     simp at h;refine((ih i h).cons B).trans ?_;exact List.Perm.swap A B _
theorem Sat.pull{L:List aC}{h:Hp}(i:Nat){A:aC}(hi:L[i]? =some A)(H:Sat L h):Sat (A::L.eraseIdx i) h:=H.perm (CE i hi)
theorem Sat.get{L:List aC}{h:Hp}(i:Nat){A:aC}(hi:L[i]? =some A)(m:BY A)(H:Sat L h):A h:=by
 obtain⟨h1,s,a⟩:=(H.pull i hi).fact;exact m _ _ s a
theorem Sat.set{L:List aC}:∀{h:Hp} (i:Nat) {b:Nat} {o o':Obj},L[i]? =some (vf b o)→Sat L h→Sat (L.set i (vf b o')) (fun x=>if x=b then some o' else h x):=by
 induction L with
 |nil=>intro h i b o o' hi;simp at hi
 | cons A L ih=>
   intro h i b o o' hi H;obtain⟨h1,h2,d,s1,s2,a,r⟩:=H;cases i with
   | zero=>
     simp at hi;subst hi;refine⟨fun x=>if x=b then some o' else none,h2, ?_, ?_, ?_,by simp[vf],r⟩
     · intro x u u' e e'
       by_cases hx:x=b
       · subst hx;exact d x o u' a e'
       simp[hx] at e
     · intro x u e
       by_cases hx:x=b
       · simp[hx] at e⊢;exact e
       simp[hx] at e
     intro x u e;by_cases hx:x=b
     · subst hx;exact(d x o u a e).elim
     simp[hx];exact s2 x u e
   | succ i=>
     simp at hi;have hb:h2 b=some o:=r.get i hi (FD b o);refine⟨h1,fun x=>if x=b then some o' else h2 x, ?_, ?_, ?_,a,ih i hi r⟩
     · intro x u u' e e'
       by_cases hx:x=b
       · subst hx;exact d x u o e hb
       simp[hx] at e';exact d x u u' e e'
     · intro x u e
       by_cases hx:x=b
       · subst hx;exact(d x u o e hb).elim
       simp[hx];exact s1 x u e
     intro x u e;by_cases hx:x=b
     · simp[hx] at e⊢;exact e
     simp[hx] at e⊢;exact s2 x u e
theorem Sat.new{L:List aC}{h:Hp}{b:Nat}{o:Obj}(hb:h b=none)(H:Sat L h):Sat (vf b o::L) (fun x=>if x=b then some o else h x):=by
 refine⟨fun x=>if x=b then some o else none,h, ?_, ?_, ?_,by simp[vf],H⟩
 · intro x u u' e e'
   by_cases hx:x=b
   · subst hx;rw[hb] at e';cases e'
   simp[hx] at e
 · intro x u e
   by_cases hx:x=b
   · simp[hx] at e⊢;exact e
   simp[hx] at e
 intro x u e;by_cases hx:x=b
 · subst hx;rw[hb] at e;cases e
 simp[hx];exact e
def hp(w:World):Hp:=fun b=>w.heap[b]?
structure On(W0:World)(L:List aC)(w:World):Prop where
 os:w.os=W0.os
 output:w.output=W0.output
 tape:w.tape=W0.tape
 size:W0.heap.size≤w.heap.size
 sat:Sat L (hp w)
section
variable{W0 w:World}{L L':List aC}
theorem On.imp(H:On W0 L w)(i:∀h,Sat L h→Sat L' h):On W0 L' w:=⟨H.os,H.output,H.tape,H.size,i _ H.sat⟩
theorem On.perm(H:On W0 L w)(p:L.Perm L'):On W0 L' w:=H.imp fun _=>Sat.perm p
theorem On.pull(H:On W0 L w)(i:Nat){A:aC}(hi:L[i]? =some A):On W0 (A::L.eraseIdx i) w:=H.perm (CE i hi)
theorem On.drew(H:On W0 L w):On W0 L w.drew:=⟨H.os,H.output,H.tape,H.size,H.sat⟩
theorem On.zS{M:List aC}(H:On W0 (star L::M) w):On W0 (L++M) w:=H.imp fun _=>Sat.zS
theorem On.uv{M:List aC}(H:On W0 (L++M) w):On W0 (star L::M) w:=H.imp fun _=>Sat.uv
theorem On.tail{A:aC}(H:On W0 (A::L) w):On W0 L w:=H.imp fun _=>Sat.tail
theorem On.block(H:On W0 L w)(i:Nat){b:Nat}{o:Obj}(hi:L[i]? =some (vf b o)):w.heap[b]? =some o:=H.sat.get i hi (FD b o)
theorem On.get(H:On W0 L w)(i:Nat){A:aC}(hi:L[i]? =some A)(m:BY A):A (hp w):=H.sat.get i hi m
theorem On.eN{A:aC}(H:On W0 L w)(g:aB L A):A (hp w):=g _ H.sat
theorem On.set{w':World}(H:On W0 L w)(i:Nat){b:Nat}{o o':Obj}(hi:L[i]? =some (vf b o))
   (h1:w'.os=w.os) (h2:w'.output=w.output) (h3:w'.tape=w.tape) (h4:w'.heap.size=w.heap.size)
   (h5:w'.heap[b]? =some o') (h6:∀k,k≠b→w'.heap[k]? =w.heap[k]?):On W0 (L.set i (vf b o')) w':=by
 refine⟨h1.trans H.os,h2.trans H.output,h3.trans H.tape,by rw[h4];exact H.size, ?_⟩
 have:hp w'=fun x=>if x=b then some o' else hp w x:=by
   funext x
   by_cases hx:x=b
   · subst hx;simp[hp,h5]
   simp[hp,hx,h6 x hx]
 rw[this];exact Sat.set i hi H.sat
theorem On.setCell(H:On W0 L w)(i:Nat){b:Nat}{cs:Array Value}{e:TypeId}{fr:Nat×Nat}(hi:L[i]? =some (vf b (.cells cs e fr)))(off:Nat)(v:Value):
   On W0 (L.set i (vf b (.cells (cs.setIfInBounds off v) e fr))) (w.setCell ⟨b,off,none⟩ v):=by
 have hb:=H.block i hi;have dW:b<w.heap.size:=(Array.getElem?_eq_some_iff.1 hb).1;refine H.set i hi rfl rfl rfl (by simp[World.setCell]) ?_ (fun k hk=>heap_setCell_other w _ k v hk);simp[World.setCell,Array.getElem?_modify,hb]
theorem On.alloc(H:On W0 L w)(o:Obj):On W0 (vf w.heap.size o::L) (w.alloc o):=by
 refine⟨H.os,H.output,H.tape,by simp;have:=H.size;omega, ?_⟩
 have:hp (w.alloc o)=fun x=>if x=w.heap.size then some o else hp w x:=by
   funext x
   by_cases hx:x=w.heap.size
   · subst hx;show(w.alloc o).heap[w.heap.size]? =_;rw[heap_alloc_new];simp
   show(w.heap.push o)[x]? =_;rw[Array.getElem?_push];simp[hp,hx]
 rw[this];exact Sat.new (by simp[hp]) H.sat
theorem On.setRow(H:On W0 L w)(i:Nat){b:Nat}{cs cs':Array Value}{e:TypeId}{fr:Nat×Nat}(hi:L[i]? =some (vf b (.cells cs e fr))):
   On W0 (L.set i (vf b (.cells cs' e fr))) (w.setRow b cs'):=by
 have hb:=H.block i hi;refine H.set i hi rfl rfl rfl (size_setRow _ _ _) ?_ (fun k hk=>setRow_other w b k _ hk);exact setRow_heap w b cs cs' e fr hb
end
def old(W0:World):aC:=fun h=>∀b,b<W0.heap.size→h b=W0.heap[b]?
theorem N5(W0:World):BY (old W0):=fun h k s H b hb=>by
 obtain⟨o,ho⟩:∃o,W0.heap[b]? =some o:=⟨_,Array.getElem?_eq_getElem hb⟩;rw[ho];exact s b o ((H b hb).trans ho)
theorem On.start(W:World):On W [old W] W:=⟨rfl,rfl,rfl,Nat.le_refl _,⟨hp W,fun _=>none,(fun _ _ _ _ e=>by cases e),Sub.refl _,(fun _ _ e=>by cases e),fun _ _=>rfl,trivial⟩⟩
theorem On.below{W0 w:World}{L:List aC}(H:On W0 L w)(g:aB L (old W0)):RowKit.Below W0.heap.size W0 w:=by
 have h:=H.eN g;exact⟨H.os,H.tape,H.output,H.size,fun k hk=>h k hk⟩
end Go.Sl
namespace Go.Sl
open Go
abbrev Env:=Nat→Value
def Sn(env:Env)(d:Nat)(v:Value):Env:=fun t=>match Nat.beq t d with|true=>v|false=>env t
def cP(env:Env)(d:Option Nat)(v:Value):Env:=match d with|some d=>Sn env d v|none=>env
def cN(env:Env):Operand→Value
 | .tmp t=>env t
 | .const v=>v
 | .global g=> .pointer (some ⟨g,0,none⟩)
 | .func f=> .func (.func f) #[] #[]
def uw:List Value→Nat→Value
 |[],_=>undef
 |v::_,0=>v
 |_::l,n+1=>uw l n
def eu(aal:Env):List (Nat×Value)→Env
 |[],t=>aal t
 |(d,v)::l,t=>match Nat.beq t d with|true=>v|false=>eu aal l t
def aam(env:Env):List (Nat×Value)→Prop
 |[]=>True
 |(d,v)::l=>env d=v∧aam env l
theorem aD{env:Env}:∀{l:List (Nat×Value)},aam env l→env=eu env l:=by
 intro l
 induction l with
 |nil=>intro _;funext t;rfl
 | cons p l ih=>
   obtain⟨d,v⟩:=p;intro h;obtain⟨h1,h2⟩:=h
   funext t
   unfold eu;cases hb:Nat.beq t d with
   |true=>have:=Nat.eq_of_beq_eq_true hb;subst this;exact h1
   |false=>exact congrFun (ih h2) t
structure Rel(N:Nat)(a:Act)(env:Env):Prop where
 size:a.tmps.size=N
 get:∀t,a.tmps.getD t undef=env t
 defers:a.defers=[]
theorem FE(env:Env)(d:Nat)(v:Value):Sn env d v d=v:=by simp[Sn]
theorem CF(env:Env){d t:Nat}(v:Value)(h:t≠d):Sn env d v t=env t:=by
 unfold Sn;have:Nat.beq t d=false:=by rw[←Bool.not_eq_true];intro e;exact h (Nat.eq_of_beq_eq_true e)
 rw[this]
theorem Rel.eval{N:Nat}{a:Act}{env:Env}(r:Rel N a env):a.eval=cN env:=by
 funext x
 cases x with
 |tmp t=>exact r.get t
 |_=>rfl
theorem Rel.put{N:Nat}{a:Act}{env:Env}(r:Rel N a env){d:Nat}(hd:Nat.ble (d+1) N=true)(v:Value):Rel N (a.put (some d) v) (Sn env d v):=by
 have dW:d<a.tmps.size:=by rw[r.size];exact Nat.le_of_ble_eq_true hd
 refine⟨by simp[Act.put,r.size],fun t=> ?_,r.defers⟩;by_cases h:t=d
 · subst h;rw[FE];simp[Act.put,dW]
 rw[CF _ _ h,←r.get t];simp[Act.put,Array.getElem?_setIfInBounds_ne (Ne.symm h)]
def iN(N:Nat):Option Nat→Bool
 |none=>true
 |some d=>Nat.ble (d+1) N
theorem Rel.vl{N:Nat}{a:Act}{env:Env}(r:Rel N a env){d:Option Nat}(hd:iN N d=true)(v:Value):Rel N (a.put d v) (cP env d v):=by
 cases d with
 |none=>exact r
 |some d=>exact r.put hd v
def aU(ops:Array Oper)(env:Env)(j:Nat):Option Bool:=
 match (ops[j]?).bind (·.dst) with
 |some t=>(match env t with| .bool b=>some b|_=>none)
 |none=>none
theorem Rel.yielded{N:Nat}{a:Act}{env:Env}(r:Rel N a env)(ops:Array Oper)(j:Nat):yielded ops a.tmps j=aU ops env j:=by
 unfold Go.yielded aU;cases h:(ops[j]?).bind (·.dst) with
 |none=>rfl
 | some t=>
   simp only[Option.bind_some];have g:=r.get t;cases ht:a.tmps[t]? with
   | none=>
     have:env t=undef:=by rw[←g];simp[ht]
     rw[this];rfl
   | some v=>
     have:env t=v:=by rw[←g];simp[ht]
     rw[this];cases v<;>rfl
def wU(R:Value→World→Prop):Ending→World→Prop:=fun e w'=>∃v,e=.returned v∧R v w'
def nr(P:Program)(ρ:Operand→Value)(o:Oper)(w:World)(R:Value→World→Prop):Prop:=
 (∃v w',(execOp ρ o).run P w=.ok (.value v) w'∧R v w')∨(∃w',(execOp ρ o).run P w=.ok .skip w'∧R undef w')∨
 (∃f args w1,(execOp ρ o).run P w=.ok (.enter f args) w1∧Calls P f args w1 (wU R))
section
variable{P:Program}{N:Nat}{ops:Array Oper}{K:Env→World→Prop}{env:Env}{w:World}{rest:List Oper}{o:Oper}
def xX(N:Nat)(K:Env→World→Prop):Exit→Act→World→Prop:=fun e a w=>e=.normal∧∃env,Rel N a env∧K env w
def WL(P:Program)(N:Nat)(ops:Array Oper)(K:Env→World→Prop)(l:List Oper)(env:Env)(w:World):Prop:=
 ∀a,Rel N a env→wpList P ops (xX N K) l a w
theorem WL.nil(h:K env w):WL P N ops K [] env w:=fun a r=>⟨rfl,env,r,h⟩
theorem WL.val{v:Value}{w':World}(hr:(execOp (cN env) o).run P w=.ok (.value v) w')(hw:Region.wanted o (aU ops env)=true)(hd:iN N o.dst=true)
   (k:WL P N ops K rest (cP env o.dst v) w'):WL P N ops K (o::rest) env w:=fun a r=>by
 unfold wpList;have hy:yielded ops a.tmps=aU ops env:=funext fun j=>r.yielded ops j;rw[hy,if_pos hw];refine .inl ?_;unfold Oper.wp;rw[r.eval,hr];exact k _ (r.vl hd v)
theorem WL.skip(hw:Region.wanted o (aU ops env)=false)(hd:iN N o.dst=true)
   (k:WL P N ops K rest (cP env o.dst undef) w):WL P N ops K (o::rest) env w:=fun a r=>by
 unfold wpList;have hy:yielded ops a.tmps=aU ops env:=funext fun j=>r.yielded ops j;rw[hy,hw];exact k _ (r.vl hd undef)
theorem nr.wp{R:Value→World→Prop}{a:Act}{K':Act→World→Prop}{Q':Exit→Act→World→Prop}(he:nr P (cN env) o w R)(r:Rel N a env)
   (k:∀v w',R v w'→K' (a.put o.dst v) w'):o.wp P a w K' Q':=by
 unfold Oper.wp;rw[r.eval];rcases he with⟨v,w',hr,hR⟩|⟨w',hr,hR⟩|⟨f,args,w1,hr,hc⟩
 · rw[hr];exact k v w' hR
 · rw[hr];exact k undef w' hR
 rw[hr];refine Calls.mono hc ?_;rintro e w' ⟨v,rfl,hR⟩;exact k v w' hR
theorem WL.BP{R:Value→World→Prop}(he:nr P (cN env) o w R)(hw:Region.wanted o (aU ops env)=true)(hd:iN N o.dst=true)
   (k:∀v w',R v w'→WL P N ops K rest (cP env o.dst v) w'):WL P N ops K (o::rest) env w:=fun a r=>by
 unfold wpList;have hy:yielded ops a.tmps=aU ops env:=funext fun j=>r.yielded ops j;rw[hy,if_pos hw];exact .inl (he.wp r fun v w' hR=>k v w' hR _ (r.vl hd v))
end
section
variable{P:Program}{N:Nat}{env:Env}{w:World}
def aan(N:Nat)(Q:Exit→Env→World→Prop):Exit→Act→World→Prop:=fun e a w=>∃env,Rel N a env∧Q e env w
def W(P:Program)(N:Nat)(c:Code)(Q:Exit→Env→World→Prop)(env:Env)(w:World):Prop:=
 ∀a,Rel N a env→c.wp P (aan N Q) a w
@[reducible] def Vy(P:Program)(N:Nat)(b:Code)(Q:Exit→Env→World→Prop):Exit→Env→World→Prop
 | .normal,env,w=>W P N b Q env w
 |e,env,w=>Q e env w
@[reducible] def Ij(id:Nat)(Q:Exit→Env→World→Prop):Exit→Env→World→Prop
 | .exit i,env,w=>match Nat.beq i id with|true=>Q .normal env w|false=>Q (.exit i) env w
 |e,env,w=>Q e env w
variable{Q Q':Exit→Env→World→Prop}
theorem W.mono{c:Code}(h:W P N c Q env w)(i:∀e env w,Q e env w→Q' e env w):W P N c Q' env w:=fun a r=>
 wp_mono (h a r) fun e a' w' ⟨eZ,r',q⟩=>⟨eZ,r',i _ _ _ q⟩
theorem W.seq{x y:Code}(h:W P N x (Vy P N y Q) env w):W P N (.seq x y) Q env w:=fun a r=>by
 refine wp_seq (wp_mono (h a r) ?_);rintro e a' w' ⟨eZ,r',q⟩;cases e with
 |normal=>exact q a' r'
 |_=>exact⟨eZ,r',q⟩
theorem W.skip(h:Q .normal env w):W P N .skip Q env w:=fun _ r=>wp_skip ⟨env,r,h⟩
theorem W.label{l:Nat}(h:Q .normal env w):W P N (.label l) Q env w:=fun _ r=>wp_label ⟨env,r,h⟩
theorem W.exit{id:Nat}(h:Q (.exit id) env w):W P N (.exit id) Q env w:=fun _ r=>wp_exit ⟨env,r,h⟩
theorem W.ret(h:Q .ret env w):W P N .ret Q env w:=fun _ r=>wp_ret ⟨env,r,h⟩
theorem W.block{id:Nat}{c:Code}(h:W P N c (Ij id Q) env w):W P N (.block id c) Q env w:=fun a r=>by
 refine wp_block (wp_mono (h a r) ?_);rintro e a' w' ⟨eZ,r',q⟩;cases e with
 | exit i=>
   simp only[Exit.inBlock];by_cases hi:i=id
   · subst hi;simp only[Ij,Nat.beq_refl] at q;rw[if_pos rfl];exact⟨eZ,r',q⟩
   have hb:Nat.beq i id=false:=by rw[←Bool.not_eq_true];intro e;exact hi (Nat.eq_of_beq_eq_true e)
   simp only[Ij,hb] at q;rw[if_neg hi];exact⟨eZ,r',q⟩
 |_=>exact⟨eZ,r',q⟩
theorem W.cond{c:Operand}{x y:Code}(b:Bool)(hc:cN env c=.bool b)(h:W P N (if b then x else y) Q env w):W P N (.cond c x y) Q env w:=fun a r=>
 wp_cond (by rw[r.eval];exact hc) (h a r)
theorem W.zT{c:Operand}{x y:Code}(hc:cN env c=.bool true)(h:W P N x Q env w):W P N (.cond c x y) Q env w:=W.cond true hc h
theorem W.zU{c:Operand}{x y:Code}(hc:cN env c=.bool false)(h:W P N y Q env w):W P N (.cond c x y) Q env w:=W.cond false hc h
theorem W.lN{c:Operand}{x y:Code}{p:Prop}[Decidable p](hc:cN env c=.bool (decide p))(ht:p→W P N x Q env w)(hf:¬p→W P N y Q env w):W P N (.cond c x y) Q env w:=by
 by_cases h:p
 · exact W.zT (by rw[hc];simp[h]) (ht h)
 exact W.zU (by rw[hc];simp[h]) (hf h)
theorem W.aao{c:Operand}{x y:Code}{b:Bool}(hc:cN env c=.bool b)(ht:b=true→W P N x Q env w)(hf:b=false→W P N y Q env w):W P N (.cond c x y) Q env w:=by
 cases b
 · exact W.zU hc (hf rfl)
 exact W.zT hc (ht rfl)
theorem W.region{id:Nat}{l:List Oper}(h:WL P N l.toArray (fun eZ w'=>Q .normal eZ w') l env w):W P N (.region id l.toArray false) Q env w:=fun a r=>by
 refine wp_region_lit ?_;have:=h a r;refine BZ ?_ l a w this;rintro e a' w' ⟨rfl,eZ,r',k⟩;exact⟨eZ,r',k⟩
where
 BZ {P:Program} {ops:Array Oper} {Q Q':Exit→Act→World→Prop} (i:∀e a w,Q e a w→Q' e a w):∀(l:List Oper) (a:Act) (w:World),wpList P ops Q l a w→wpList P ops Q' l a w:=by
   intro l
   induction l with
   |nil=>exact fun a w h=>i _ _ _ h
   | cons o rest ih=>
     intro a w h;unfold wpList at h⊢;split
     · rename_i hw
       rw[if_pos hw] at h;refine h.imp (fun h=> ?_) (fun⟨h1,a',w',h2⟩=>⟨h1,a',w',i _ _ _ h2⟩);unfold Oper.wp at h⊢;generalize (execOp a.eval o).run P w=r at h⊢;cases r with
       | ok n w'=>
         cases n<;>simp only[Oper.upon] at h⊢<;>
           first
             |exact ih _ _ h
             | exact Calls.mono h (fun e w'' he => by
                 cases e
                 · exact ih _ _ he
                 · exact i _ _ _ he
                 exact ⟨he.choose, he.choose_spec.choose, i _ _ _ he.choose_spec.choose_spec⟩)
             |exact Rows.mono h (fun _ _ he=>ih _ _ he)
       | halt x w'=>
         cases x<;>simp only[Oper.upon] at h⊢;exact i _ _ _ h
     rename_i hw;rw[if_neg hw] at h;exact ih _ _ h
@[reducible] def aap(M:Env→World→Prop)(Q:Exit→Env→World→Prop):Exit→Env→World→Prop
 | .normal,env,w=>M env w
 |e,env,w=>Q e env w
theorem W.cut{x y:Code}(M:Env→World→Prop)(h:W P N x (aap M Q) env w)(k:∀env w,M env w→W P N y Q env w):W P N (.seq x y) Q env w:=
 W.seq (W.mono h fun e env w q => by
   cases e with
   |normal=>exact k _ _ q
   | _ => exact q)
@[reducible] def aaq{σ:Type}(I:σ→Env→World→Prop)(m:σ→Nat)(s:σ)(Q:Exit→Env→World→Prop):Exit→Env→World→Prop
 | .normal,env,w=>∃s',I s' env w∧m s'<m s
 |e,env,w=>Q e env w
theorem W.loop{σ:Type}{c:Code}(I:σ→Env→World→Prop)(m:σ→Nat)(s0:σ)(h0:I s0 env w)
   (step:∀s env w,I s env w→W P N c (aaq I m s Q) env w):W P N (.loop c) Q env w:=fun a r=>by
 refine wp_loop_ghost s0 (fun s a w=>∃env,Rel N a env∧I s env w) m ⟨env,r,h0⟩ ?_;rintro s a w ⟨env,r,hi⟩;refine wp_mono (step s env w hi a r) ?_;rintro e a' w' ⟨eZ,r',q⟩;cases e with
 |normal=>obtain⟨s',hi',hm⟩:=q;exact⟨s',⟨eZ,r',hi'⟩,hm⟩
 |_=>exact⟨eZ,r',q⟩
where
 wp_loop_ghost {P:Program} {c:Code} {Q:Exit→Act→World→Prop} {a:Act} {w:World} {σ:Type} (s0:σ) (I:σ→Act→World→Prop) (m:σ→Nat) (h0:I s0 a w)
     (step:∀s a w,I s a w→c.wp P (fun e a' w'=>match e with| .normal=>∃s',I s' a' w'∧m s'<m s|e=>Q e a' w') a w):(Code.loop c).wp P Q a w:=by
   let ajZ:Nat→Act→World→Prop:=fun n a w=>∃s,I s a w∧m s=n
   have key:∀n a w,(∃s,I s a w∧m s=n)→∀(b:Frame) (k:List Item) (cs:List Frame),∃e a' w',Q e a' w'∧Arrives P (lone (b.at a (.inLoop c::k)) cs w) b k cs e a' w':=by
     intro n
     induction n using Nat.strongRecOn with
     | ind n ih=>
       rintro a w ⟨s,hi,hm⟩ b k cs;obtain⟨e,a',w',q,arr⟩:=step s a w hi b (.inLoop c::k) cs;cases e with
       | normal=>
         obtain⟨s',hi',dW⟩:=q;obtain⟨e2,a2,w2,q2,WA⟩:=ih (m s') (by omega) a' w' ⟨s',hi',rfl⟩ b k cs;exact⟨e2,a2,w2,q2,.of_steps (.head step_inLoop arr) WA⟩
       |exit id=>exact⟨_,a',w',q,.of_steps (.one step_inLoop) (.pass (x:=.inLoop c) rfl (fun _ _=> .inl (by simp)) arr)⟩
       |goto l=>exact⟨_,a',w',q,.of_steps (.one step_inLoop) (.pass (x:=.inLoop c) rfl (fun _ _=> .inl (by simp)) arr)⟩
       |ret=>exact⟨_,a',w',q,.of_steps (.one step_inLoop) (.pass (x:=.inLoop c) rfl (fun _ _=> .inl (by simp)) arr)⟩
       |panic ch=>exact⟨_,a',w',q,.of_steps (.one step_inLoop) (.pass (x:=.inLoop c) rfl (fun _ _=> .inl (by simp)) arr)⟩
       |outgrown=>exact⟨_,a',w',q,.of_steps (.one step_inLoop) (.pass (x:=.inLoop c) rfl (fun _ _=> .inl (by simp)) arr)⟩
   intro b k cs;obtain⟨e,a',w',q,arr⟩:=step s0 a w h0 b (.inLoop c::k) cs;cases e with
   | normal=>
     obtain⟨s',hi',dW⟩:=q;obtain⟨e2,a2,w2,q2,WA⟩:=key (m s') a' w' ⟨s',hi',rfl⟩ b k cs;exact⟨e2,a2,w2,q2,.of_steps (.head step_loop arr) WA⟩
   |exit id=>exact⟨_,a',w',q,.of_steps (.one step_loop) (.pass (x:=.inLoop c) rfl (fun _ _=> .inl (by simp)) arr)⟩
   |goto l=>exact⟨_,a',w',q,.of_steps (.one step_loop) (.pass (x:=.inLoop c) rfl (fun _ _=> .inl (by simp)) arr)⟩
   |ret=>exact⟨_,a',w',q,.of_steps (.one step_loop) (.pass (x:=.inLoop c) rfl (fun _ _=> .inl (by simp)) arr)⟩
   |panic ch=>exact⟨_,a',w',q,.of_steps (.one step_loop) (.pass (x:=.inLoop c) rfl (fun _ _=> .inl (by simp)) arr)⟩
   |outgrown=>exact⟨_,a',w',q,.of_steps (.one step_loop) (.pass (x:=.inLoop c) rfl (fun _ _=> .inl (by simp)) arr)⟩
def bf(P:Program)(fn:Func)(R:Value→World→Prop):Exit→Env→World→Prop
 | .normal,env,w| .ret,env,w=>∃v,(∀tmps:Array Value,(∀t,tmps.getD t undef=env t)→(results fn tmps).run P w=.ok v w)∧R v w
 |_,_,_=>False
theorem bf.r0{fn:Func}{R:Value→World→Prop}(h:fn.results=#[])(hR:R (.tuple #[]) w):bf P fn R .ret env w:=
 ⟨_,fun tmps _=>results_none h tmps P w,hR⟩
theorem bf.r1{fn:Func}{R:Value→World→Prop}{t:Nat}{v:Value}(h:fn.results=#[.tmp t])(hv:env t=v)(hR:R v w):bf P fn R .ret env w:=
 ⟨_,fun tmps hg=>by rw[results_tmp h tmps P w,hg,hv],hR⟩
theorem bf.r2{fn:Func}{R:Value→World→Prop}{t u:Nat}{v1 v2:Value}(h:fn.results=#[.tmp t,.tmp u])(h1:env t=v1)(h2:env u=v2)(hR:R (.tuple #[v1,v2]) w):bf P fn R .ret env w:=
 ⟨_,fun tmps hg=>by rw[results_tmp2 h tmps P w,hg,hg,h1,h2],hR⟩
theorem bf.r3{fn:Func}{R:Value→World→Prop}{t u x:Nat}{v1 v2 v3:Value}(h:fn.results=#[.tmp t,.tmp u,.tmp x])(h1:env t=v1)(h2:env u=v2)(h3:env x=v3)(hR:R (.tuple #[v1,v2,v3]) w):bf P fn R .ret env w:=
 ⟨_,fun tmps hg=>by rw[results_tmp3 h tmps P w,hg,hg,hg,h1,h2,h3],hR⟩
theorem bf.yW{fn:Func}{R:Value→World→Prop}(h:bf P fn R .ret env w):bf P fn R .normal env w:=h
theorem enter{f:FuncId}{fn:Func}{c:Code}{args:List Value}{R:Value→World→Prop}(hf:P.funcs[f]? =some fn)(hb:fn.body=some c)(hn:fn.ntmps=N)(hl:Nat.ble args.length N=true)
   (h:W P N c (bf P fn R) (uw args) w):Calls P f args.toArray w (wU R):=by
 refine calls_of_wp hf hb ?_;have hle:args.length≤N:=Nat.le_of_ble_eq_true hl
 have r:Rel N {tmps:=args.toArray++Array.replicate (fn.ntmps - args.toArray.size) undef,defers:=[]} (uw args):=by
   refine⟨?_,fun t=> ?_,rfl⟩
   · simp[hn];omega
   have nth:∀(l:List Value) (t:Nat),uw l t=l.getD t undef:=by
     intro l
     induction l with
     |nil=>intro t;simp[uw]
     | cons v l ih=>intro t;cases t with
       |zero=>simp[uw]
       |succ t=>simp[uw,ih]
   rw[nth];simp only[Array.getD_eq_getD_getElem?,List.getD_eq_getElem?_getD];rw[Array.getElem?_append];split
   · simp
   rename_i B1;simp at B1;rw[List.getElem?_eq_none B1,Array.getElem?_replicate];split<;>rfl
 refine wp_mono (h _ r) ?_;rintro e a' w' ⟨eZ,r',q⟩;cases e with
 |normal=>obtain⟨v,hv,hR⟩:=q;exact⟨r'.defers,v,hv a'.tmps r'.get,v,rfl,hR⟩
 |ret=>obtain⟨v,hv,hR⟩:=q;exact⟨r'.defers,v,hv a'.tmps r'.get,v,rfl,hR⟩
 |exit _=>exact q.elim
 |goto _=>exact q.elim
 |panic _=>exact q.elim
 |outgrown=>exact q.elim
end
end Go.Sl
namespace Go.Sl
open Go
def waits(ops:Array Oper)(j i:Nat):Bool:=((Region.before ops).getD j 0).testBit i
def D4(ops:Array Oper)(aM:Array Bool):Prop:=
 ∀k o,aM.getD k false=true→ops[k]? =some o→∀e∈o.after,Region.binds .any e=true→aM.getD e.on false=true
def Km(ops:Array Oper)(aM:Array Bool):Bool:=
 (List.range ops.size).all fun k=> !aM.getD k false||match ops[k]? with
   |some o=>o.after.all fun e=> !Region.binds .any e||aM.getD e.on false
   |none=>true
theorem CG{ops:Array Oper}{aM:Array Bool}(h:Km ops aM=true):D4 ops aM:=fun k o hk ho e he hb=>by
 have dW:k<ops.size:=(Array.getElem?_eq_some_iff.1 ho).1;have h1:=List.all_eq_true.1 h k (List.mem_range.2 dW);simp only[hk,ho,Bool.not_true,Bool.false_or] at h1;have h2:=Array.all_eq_true_iff_forall_mem.1 h1 e he;simpa [hb] using h2
theorem Lv(ops:Array Oper){aM:Array Bool}(hc:D4 ops aM):
   ∀k o,ops[k]? =some o→(∀e∈o.after,Region.binds .any e=true→aM.getD e.on false=true)→∀i,waits ops k i=true→aM.getD i false=true:=by
 have key:∀(l:List Oper) (pre:List Oper) (acc:Array Nat),ops.toList=pre++l→acc.size=pre.length→
     (∀k o,ops[k]? =some o→(∀e∈o.after,Region.binds .any e=true→aM.getD e.on false=true)→∀i,(acc.getD k 0).testBit i=true→aM.getD i false=true)→
     (∀k o,ops[k]? =some o→(∀e∈o.after,Region.binds .any e=true→aM.getD e.on false=true)→∀i,((l.foldl (fun acc o=>acc.push (o.after.foldl (fun s e=>if Region.binds .any e then s|||2^e.on|||acc.getD e.on 0 else s) 0)) acc).getD k 0).testBit i=true→aM.getD i false=true):=by
   intro l
   induction l with
   |nil=>intro pre acc _ _ h;exact h
   | cons x l ih=>
     intro pre acc aas CH h;simp only[List.foldl_cons];refine ih (pre++[x]) _ (by simp[aas]) (by simp[CH]) ?_;intro k o hk ny i hi;by_cases SU:k=acc.size
     · subst SU
       have hx:o=x:=by
         have:ops[acc.size]? =some x:=by rw[←Array.getElem?_toList,aas,CH];simp
         rw[this] at hk;exact(Option.some.inj hk).symm
       subst hx;simp only[Array.getD_eq_getD_getElem?,Array.getElem?_push_size,Option.getD_some] at hi
       have fold:∀(es:List Edge) (s:Nat),(∀e∈es,e∈o.after)→(s.testBit i=true→aM.getD i false=true)→
           (es.foldl (fun s e=>if Region.binds .any e then s|||2^e.on|||acc.getD e.on 0 else s) s).testBit i=true→aM.getD i false=true:=by
         intro es
         induction es with
         |nil=>intro s _ hs h;exact hs h
         | cons e es ihe=>
           intro s hm hs hf;simp only[List.foldl_cons] at hf;refine ihe _ (fun e' he'=>hm e' (List.mem_cons_of_mem _ he')) ?_ hf;intro hb;by_cases N6:Region.binds .any e=true
           · rw[if_pos N6] at hb
             simp only[Nat.testBit_or,Bool.or_eq_true] at hb;have Vz:aM.getD e.on false=true:=ny e (hm e (List.mem_cons_self ..)) N6;rcases hb with(hb|hb)|hb
             · exact hs hb
             · rw[Nat.testBit_two_pow] at hb
               have:e.on=i:=by simpa using hb
               rw[←this];exact Vz
             cases ZG:ops[e.on]? with
             | none=>
               have B1:acc.size≤e.on:=by
                 have h1:ops.size≤e.on:=Array.getElem?_eq_none_iff.1 ZG;have h2:acc.size<ops.size:=(Array.getElem?_eq_some_iff.1 hk).1;omega
               simp[Array.getElem?_eq_none B1] at hb
             |some oe=>exact h e.on oe ZG (fun e' he' hb'=>hc e.on oe Vz ZG e' he' hb') i hb
           rw[if_neg N6] at hb;exact hs hb
       rw[←Array.foldl_toList] at hi;simp only[←Array.getD_eq_getD_getElem?] at hi;exact fold o.after.toList 0 (fun e he=>by simpa using he) (by simp) hi
     rw[Array.getD_eq_getD_getElem?,Array.getElem?_push,if_neg SU,←Array.getD_eq_getD_getElem?] at hi;exact h k o hk ny i hi
 intro k o hk ny i hi;unfold waits Region.before at hi;rw[←Array.foldl_toList] at hi;exact key ops.toList [] #[] (by simp) rfl (by intro k o _ _ i hi;simp at hi) k o hk ny i hi
abbrev mh:=List (Nat×(World→Prop))
def ei(ops:Array Oper)(j:Nat)(T:mh):mh:=T.filter fun p=> !waits ops j p.1
def wZ(ops:Array Oper)(j:Nat):mh→World→Prop
 |[],_=>True
 |(i,S)::T,w=>(match waits ops j i with|true=>True|false=>S w)∧wZ ops j T w
section
variable{P:Program}{ops:Array Oper}{Q:Exit→Act→World→Prop}
def jD(P:Program)(ops:Array Oper)(Q:Exit→Act→World→Prop):Nat→mh→Array Bool→Act→World→Prop
 |0,_,aM,a,w=>Region.ready .any ops aM=[]∧Q .normal a w
 | fuel+1,T,aM,a,w=>
   (Region.ready .any ops aM=[]→Q .normal a w)∧
   ∀i∈Region.ready .any ops aM,wpOp P ops Q i (fun a' w'=>wZ ops i T w'∧jD P ops Q fuel (ei ops i T) (aM.setIfInBounds i true) a' w') a w
theorem zV:∀(fuel:Nat) (T:mh) (aM:Array Bool) (a:Act) (w:World),jD P ops Q fuel T aM a w→wpAny P .any ops Q fuel aM a w
 |0,_,_,_,_,h=>h
 |fuel+1,_,_,_,_,h=>⟨h.1,fun i hi=>wpOp_mono (fun a' w' h'=>zV fuel _ _ a' w' h'.2) (h.2 i hi)⟩
theorem xY:∀(fuel:Nat) (T:mh) (f:Nat×(World→Prop)→Bool) (aM:Array Bool) (a:Act) (w:World),jD P ops Q fuel T aM a w→jD P ops Q fuel (T.filter f) aM a w:=by
 intro fuel
 induction fuel with
 |zero=>exact fun T f aM a w h=>h
 | succ fuel ih=>
   intro T f aM a w h;refine⟨h.1,fun j hj=>wpOp_mono (fun a' w' h'=> ?_) (h.2 j hj)⟩;obtain⟨h1,h2⟩:=h';refine⟨?_, ?_⟩
   · clear h2 h
     induction T with
     |nil=>trivial
     | cons p T ihT=>
       rw[List.filter_cons];split
       · exact⟨h1.1,ihT h1.2⟩
       exact ihT h1.2
   have e:ei ops j (T.filter f)=(ei ops j T).filter f:=by
     unfold ei;rw[List.filter_filter,List.filter_filter];congr 1;funext p;rw[Bool.and_comm]
   rw[e];exact ih _ _ _ _ _ h2
theorem vm{i:Nat}{oi:Oper}{v:Value}{S:World→Prop}(hi:ops[i]? =some oi)(aaw:∀(j:Nat) (o:Oper) cs b,ops[j]? =some o→o.op≠ .select cs b)
   (hQ:∀c a w,Q (.panic c) (a.put oi.dst v) w→Q (.panic c) a w):
   ∀ (fuel:Nat) (T:mh) (aM:Array Bool) (a:Act) (w:World),
     (∀j oj,ops[j]? =some oj→j≠i→aM.getD j true=false→(∀e∈oj.after,Region.binds .any e=true→e.on≠i)→oi.apart ops oj=true)→
     D4 ops aM→i∈Region.ready .any ops aM→YieldsIf P ops S oi v a→S w→wZ ops i T w→
     jD P ops Q fuel ((i,S)::T) (aM.setIfInBounds i true) (a.put oi.dst v) w→jD P ops Q (fuel+1) T aM a w:=by
 have here:∀(fuel:Nat) (T:mh) (aM:Array Bool) (a:Act) (w:World),YieldsIf P ops S oi v a→S w→wZ ops i T w→
     jD P ops Q fuel ((i,S)::T) (aM.setIfInBounds i true) (a.put oi.dst v) w→
     wpOp P ops Q i (fun a' w'=>wZ ops i T w'∧jD P ops Q fuel (ei ops i T) (aM.setIfInBounds i true) a' w') a w:=by
   intro fuel T aM a w hy hS hp H;refine hy.wpOp hi hS ⟨hp, ?_⟩;by_cases hii:waits ops i i=true
   · have e:ei ops i T=((i,S)::T).filter (fun p=> !waits ops i p.1):=by unfold ei;rw[List.filter_cons];simp[hii]
     rw[e];exact xY _ _ _ _ _ _ H
   have h2:=xY _ _ (fun p=> !waits ops i p.1) _ _ _ H;rw[List.filter_cons] at h2;simp only[hii,Bool.not_false,if_true] at h2
   have WB:∀(fuel:Nat) (x:Nat×(World→Prop)) (T:mh) (aM:Array Bool) (a:Act) (w:World),jD P ops Q fuel (x::T) aM a w→jD P ops Q fuel T aM a w:=by
     intro fuel
     induction fuel with
     |zero=>exact fun x T aM a w h=>h
     | succ fuel ih=>
       intro x T aM a w h;refine⟨h.1,fun j hj=>wpOp_mono (fun a' w' h'=> ?_) (h.2 j hj)⟩;obtain⟨h1,h2⟩:=h';refine⟨h1.2, ?_⟩;unfold ei at h2⊢;rw[List.filter_cons] at h2;split at h2
       · exact ih _ _ _ _ _ h2
       exact h2
   exact WB _ _ _ _ _ _ h2
 intro fuel
 induction fuel with
 | zero=>
   intro T aM a w _ _ hr hy hS hp H;refine⟨fun h=>(by rw[h] at hr;cases hr),fun j hj=> ?_⟩;by_cases N7:j=i
   · subst N7;exact here 0 T aM a w hy hS hp H
   have:=ready_mono hj N7;rw[H.1] at this;cases this
 | succ fuel ih=>
   intro T aM a w iT hc hr hy hS hp H;refine⟨fun h=>(by rw[h] at hr;cases hr),fun j hj=> ?_⟩;by_cases N7:j=i
   · subst N7;exact here (fuel+1) T aM a w hy hS hp H
   have h1:=H.2 j (ready_mono hj N7);obtain⟨aax,oj,hoj,ny⟩:=mem_ready.1 hj
   have aaz:aM.getD i false=false:=by
     have h0:=(mem_ready.1 hr).1;rcases Nat.lt_or_ge i aM.size with h'|h'
     · simp[h'] at h0⊢;exact h0
     simp[Array.getElem?_eq_none h'] at h0
   have SV:∀e∈oj.after,Region.binds .any e=true→e.on≠i:=fun e he hb heq=>by
     have h1:=ny e he hb;rw[heq,aaz] at h1;cases h1
   have hw:waits ops j i=false:=by
     rw[←Bool.not_eq_true];intro WC;have:=Lv ops hc j oj hoj ny i WC;rw[aaz] at this;cases this
   have h2:=wpOp_putIf hoj (iT j oj hoj N7 aax SV) (fun cs b=>aaw i oi cs b hi) (fun cs b=>aaw j oj cs b hoj) hQ hy h1
   have WE:∀k ok,ops[k]? =some ok→k≠i→(aM.setIfInBounds j true).getD k true=false→
       (∀e∈ok.after,Region.binds .any e=true→e.on≠i)→oi.apart ops ok=true:=fun k ok hk hki hun dX=>by
     refine iT k ok hk hki ?_ dX;by_cases SW:j=k
     · subst SW;exact aax
     rw[getD_set_ne true SW] at hun;exact hun
   have WG:D4 ops (aM.setIfInBounds j true):=fun k o hk ho e he hb=>by
     refine getD_set_true ?_;by_cases SW:j=k
     · subst SW;rw[hoj] at ho;cases ho;exact ny e he hb
     rw[getD_set_ne false SW] at hk;exact hc k o hk ho e he hb
   refine wpOp_mono (fun a' w' h3=> ?_) h2;obtain⟨hy',aaB,VA⟩:=h3
   have hpd:S w'∧wZ ops j T w':=by
     have:=aaB;simp only[wZ,hw] at this;exact this
   refine⟨hpd.2,ih (ei ops j T) (aM.setIfInBounds j true) a' w' WE WG (ready_mono hr (Ne.symm N7)) hy' hpd.1 ?_ ?_⟩
   · have sub:∀(T:mh),wZ ops j T w'→wZ ops i (ei ops j T) w':=by
       intro T
       induction T with
       |nil=>intro _;trivial
       | cons p T ihT=>
         intro hp;unfold ei;rw[List.filter_cons];split
         · rename_i hpj
           refine⟨?_,ihT hp.2⟩;have h0:=hp.1;have:waits ops j p.1=false:=by simpa using hpj
           rw[this] at h0;split
           · trivial
           exact h0
         exact ihT hp.2
     exact sub T hpd.2
   have e:ei ops j ((i,S)::T)=(i,S)::ei ops j T:=by
     unfold ei;rw[List.filter_cons];simp[hw]
   rw[e] at VA;rw[Array.setIfInBounds_comm _ _ N7];exact VA
end
section
variable{P:Program}{N:Nat}{ops:Array Oper}{K:Env→World→Prop}{env:Env}{w:World}{T:mh}{fuel:Nat}{aM:Array Bool}
@[reducible] def cX:List Bool→mh→mh
 |true::bs,p::T=>p::cX bs T
 |false::bs,_::T=>cX bs T
 |_,_=>[]
@[reducible] def jt:mh→World→Prop
 |[],_=>True
 |(_,S)::T,w=>S w∧jt T w
theorem vn:∀{T:mh} {i:Nat},jt (ei ops i T) w→wZ ops i T w:=by
 intro T
 induction T with
 |nil=>intro i _;trivial
 | cons p T ih=>
   intro i h;unfold ei at h;rw[List.filter_cons] at h;split at h
   · rename_i hp
     refine⟨?_,ih h.2⟩;split
     · trivial
     exact h.1
   rename_i hp;refine⟨?_,ih h⟩;have:waits ops i p.1=true:=by simpa using hp
   rw[this];trivial
theorem jt.filter{f:Nat×(World→Prop)→Bool}:∀{T:mh},jt T w→jt (T.filter f) w:=by
 intro T
 induction T with
 |nil=>exact fun h=>h
 | cons p T ih=>
   intro h;rw[List.filter_cons];split
   · exact⟨h.1,ih h.2⟩
   exact ih h.2
def WT(P:Program)(N:Nat)(ops:Array Oper)(K:Env→World→Prop)(fuel:Nat)(T:mh)(aM:Array Bool)(env:Env)(w:World):Prop:=
 jt T w→∀a,Rel N a env→jD P ops (xX N K) fuel T aM a w
theorem W.draw{Q:Exit→Env→World→Prop}{id:Nat}{l:List Oper}{W0:World}{L:List aC}(hm:P.follows .mixedOrders=true)(hO:On W0 L w)
   (h:∀w',On W0 L w'→WT P N l.toArray (fun eZ w'=>Q .normal eZ w') l.length [] (Array.replicate l.length false) env w'):W P N (.region id l.toArray true) Q env w:=fun a r=>by
 refine wp_region_any hm ?_;have:=h w.drew hO.drew trivial a r;have h2:=zV _ _ _ _ _ this;have e:l.toArray.size=l.length:=by simp
 rw[e];refine weaken ?_ _ _ _ _ h2;rintro e a' w' ⟨rfl,eZ,r',k⟩;exact⟨eZ,r',k⟩
where
 weaken {P:Program} {ops:Array Oper} {Q Q':Exit→Act→World→Prop} (i:∀e a w,Q e a w→Q' e a w):∀(fuel:Nat) (aM:Array Bool) (a:Act) (w:World),wpAny P .any ops Q fuel aM a w→wpAny P .any ops Q' fuel aM a w:=by
   intro fuel
   induction fuel with
   |zero=>exact fun aM a w h=>⟨h.1,i _ _ _ h.2⟩
   | succ fuel ih=>
     intro aM a w h;refine⟨fun e=>i _ _ _ (h.1 e),fun j hj=> ?_⟩;have:=h.2 j hj;unfold wpOp at this⊢;cases ho:ops[j]? with
     |none=>rw[ho] at this;exact ih _ _ _ this
     | some o=>
       simp only[ho] at this⊢;split
       · rename_i hw
         rw[if_pos hw] at this;refine this.imp (fun h=> ?_) (fun⟨h1,a',w',h2⟩=>⟨h1,a',w',i _ _ _ h2⟩);unfold Oper.wp at h⊢;generalize (execOp a.eval o).run P w=r at h⊢;cases r with
         | ok n w'=>
           cases n<;>simp only[Oper.upon] at h⊢<;>
             first
               |exact ih _ _ _ h
               | exact Calls.mono h (fun e w'' he => by
                   cases e
                   · exact ih _ _ _ he
                   · exact i _ _ _ he
                   exact ⟨he.choose, he.choose_spec.choose, i _ _ _ he.choose_spec.choose_spec⟩)
               |exact Rows.mono h (fun _ _ he=>ih _ _ _ he)
         | halt x w'=>
           cases x<;>simp only[Oper.upon] at h⊢;exact i _ _ _ h
       rename_i hw;rw[if_neg hw] at this;exact ih _ _ _ this
theorem WT.done(hr:Region.ready .any ops aM=[])(h:K env w):WT P N ops K fuel T aM env w:=fun _ a r=>by
 cases fuel with
 |zero=>exact⟨hr,rfl,env,r,h⟩
 |succ f=>exact⟨fun _=>⟨rfl,env,r,h⟩,by rw[hr];exact fun i hi=>by cases hi⟩
def kg(ops:Array Oper)(aM:Array Bool)(i:Nat):Bool:=Region.noSelect ops&&Region.free .any ops aM i&&(Region.ready .any ops aM).contains i&&Km ops aM
theorem WT.take(i:Nat){oi:Oper}{v:Value}(S:World→Prop)(hi:ops[i]? =some oi)(hb:kg ops aM i=true)
   (hw:Region.wanted oi (aU ops env)=true) (hd:iN N oi.dst=true) (hS:S w) (hv:∀w',S w'→(execOp (cN env) oi).run P w'=.ok (.value v) w')
   (k:WT P N ops K fuel ((i,S)::T) (aM.setIfInBounds i true) (cP env oi.dst v) w):WT P N ops K (fuel+1) T aM env w:=fun hp a r=>by
 simp only[kg,Bool.and_eq_true] at hb;refine vm (S:=S) hi (Region.noSelect_spec hb.1.1.1) (by rintro c a w ⟨h,_⟩;cases h) fuel T aM a w (Region.free_spec hi hb.1.1.2) (CG hb.2) (by simpa using hb.1.2) (Or.inl ⟨?_, ?_⟩) hS (vn hp.filter) (k ⟨hS,hp⟩ _ (r.vl hd v))
 · have hy:yielded ops a.tmps=aU ops env:=funext fun j=>r.yielded ops j
   rw[hy];exact hw
 rw[r.eval];exact hv
theorem xZ(i:Nat){P:Program}{ops:Array Oper}{Q:Exit→Act→World→Prop}:∀(fuel:Nat) (T:mh) (aM:Array Bool) (a:Act) (w:World),jD P ops Q fuel T aM a w→jD P ops Q fuel ((i,fun _=>True)::T) aM a w:=by
 intro fuel
 induction fuel with
 |zero=>exact fun T aM a w h=>h
 | succ fuel ih=>
   intro T aM a w h;refine⟨h.1,fun j hj=>wpOp_mono (fun a' w' h'=> ?_) (h.2 j hj)⟩;obtain⟨h1,h2⟩:=h';refine⟨⟨by split<;>trivial,h1⟩, ?_⟩;unfold ei at h2⊢;rw[List.filter_cons];split
   · exact ih _ _ _ _ h2
   exact h2
theorem WT.pure(i:Nat){oi:Oper}{v:Value}(hi:ops[i]? =some oi)(hb:kg ops aM i=true)
   (hv:∀w',(execOp (cN env) oi).run P w'=.ok (.value v) w') (hw:Region.wanted oi (aU ops env)=true) (hd:iN N oi.dst=true)
   (k:WT P N ops K fuel T (aM.setIfInBounds i true) (cP env oi.dst v) w):WT P N ops K (fuel+1) T aM env w:=by
 refine WT.take i (fun _=>True) hi hb hw hd trivial (fun w' _=>hv w') fun hp a r=> ?_;exact xZ i fuel T _ a w (k hp.2 a r)
theorem WT.skip(i:Nat){oi:Oper}(hi:ops[i]? =some oi)(hb:kg ops aM i=true)
   (hw:Region.wanted oi (aU ops env)=false) (hd:iN N oi.dst=true)
   (k:WT P N ops K fuel T (aM.setIfInBounds i true) (cP env oi.dst undef) w):WT P N ops K (fuel+1) T aM env w:=fun hp a r=>by
 simp only[kg,Bool.and_eq_true] at hb;refine vm (S:=fun _=>True) hi (Region.noSelect_spec hb.1.1.1) (by rintro c a w ⟨h,_⟩;cases h) fuel T aM a w (Region.free_spec hi hb.1.1.2) (CG hb.2) (by simpa using hb.1.2) (Or.inr ⟨?_,rfl⟩) trivial (vn hp.filter) ?_
 · have hy:yielded ops a.tmps=aU ops env:=funext fun j=>r.yielded ops j
   rw[hy];exact hw
 exact xZ i fuel T _ _ w (k hp _ (r.vl hd undef))
theorem WT.VB(i:Nat){t:TypeId}{x:Operand}{d:Option Nat}{ty:TypeId}{pos:String}{af:Array Edge}{g:Option (Nat×Bool)}{ad:Addr}{v:Value}(hi:ops[i]? =some ⟨d,.load t x,ty,pos,af,g⟩)(hb:kg ops aM i=true)
   (hA:∀w,(isAgg t).run P w=.ok false w) (h:cN env x=.pointer (some ad)) (hc:w.cell? ad=some v)
   (hw:Region.wanted ⟨d,.load t x,ty,pos,af,g⟩ (aU ops env)=true) (hd:iN N d=true)
   (k:WT P N ops K fuel ((i,fun w=>w.cell? ad=some v)::T) (aM.setIfInBounds i true) (cP env d v) w):WT P N ops K (fuel+1) T aM env w:=
 WT.take i (fun w=>w.cell? ad=some v) hi hb hw hd hc (fun w' WG=>by simp[execOp,Instr.loadAt,h,Instr.sureAddr,loadVar,hA,WG]) k
theorem WT.gF(i:Nat){t n b o:Nat}{x:Operand}{d:Option Nat}{ty:TypeId}{pos:String}{af:Array Edge}{g:Option (Nat×Bool)}{vs:List Value}(hi:ops[i]? =some ⟨d,.load t x,ty,pos,af,g⟩)(hb:kg ops aM i=true)
   (hA:∀w,(isAgg t).run P w=.ok true w) (hS:∀w,(sizeOf t).run P w=.ok n w) (h:cN env x=.pointer (some ⟨b,o,none⟩)) (hl:vs.length=n) (hc:∀j u,vs[j]? =some u→w.cell? ⟨b,o+j,none⟩=some u)
   (hw:Region.wanted ⟨d,.load t x,ty,pos,af,g⟩ (aU ops env)=true) (hd:iN N d=true)
   (k:WT P N ops K fuel ((i,fun w=>∀j u,vs[j]? =some u→w.cell? ⟨b,o+j,none⟩=some u)::T) (aM.setIfInBounds i true) (cP env d (.agg vs.toArray)) w):WT P N ops K (fuel+1) T aM env w:=
 WT.take i (fun w => ∀ j u, vs[j]? = some u → w.cell? ⟨b, o + j, none⟩ = some u) hi hb hw hd hc (fun w' WG => by
   have := run_loadCells_list (P := P) w' ⟨b, o, none⟩ vs (fun j v hv => by
     have:=WG j v hv;unfold Addr.add;split
     · rename_i h0;subst h0;simpa using this
     exact this)
   rw [hl] at this;simp [execOp, Instr.loadAt, h, Instr.sureAddr, loadVar, hA, hS, this]) k
theorem WT.BP(i:Nat){oi:Oper}{R:Value→World→Prop}(mask:List Bool)(hi:ops[i]? =some oi)(hr:Region.ready .any ops aM=[i])(hT:ei ops i T=cX mask T)(he:nr P (cN env) oi w R)
   (hw:Region.wanted oi (aU ops env)=true) (hd:iN N oi.dst=true)
   (k:∀v w',R v w'→jt (cX mask T) w'∧WT P N ops K fuel (cX mask T) (aM.setIfInBounds i true) (cP env oi.dst v) w'):WT P N ops K (fuel+1) T aM env w:=fun hp a r=>by
 rw[←hT] at k;refine⟨fun e=>absurd (hr▸e) (by simp), ?_⟩;rw[hr];intro j hj;rw[List.mem_singleton] at hj;subst hj;unfold wpOp;have hy:yielded ops a.tmps=aU ops env:=funext fun j=>r.yielded ops j;simp only[hi];rw[hy,if_pos hw];exact .inl (he.wp r fun v w' hR=>⟨vn (k v w' hR).1,(k v w' hR).2 (k v w' hR).1 _ (r.vl hd v)⟩)
theorem WT.two(i j:Nat)(hr:Region.ready .any ops aM=[i,j])
   (h1:∀a,Rel N a env→jt T w→wpOp P ops (xX N K) i (fun a' w'=>wZ ops i T w'∧jD P ops (xX N K) fuel (ei ops i T) (aM.setIfInBounds i true) a' w') a w)
   (h2:∀a,Rel N a env→jt T w→wpOp P ops (xX N K) j (fun a' w'=>wZ ops j T w'∧jD P ops (xX N K) fuel (ei ops j T) (aM.setIfInBounds j true) a' w') a w):WT P N ops K (fuel+1) T aM env w:=fun hp a r=>by
 refine⟨fun e=>absurd (hr▸e) (by simp), ?_⟩;rw[hr];intro x hx;rcases List.mem_cons.1 hx with rfl|hx
 · exact h1 a r hp
 rw[List.mem_singleton] at hx;subst hx;exact h2 a r hp
theorem WT.ju(i:Nat){oi:Oper}{R:Value→World→Prop}(mask:List Bool)(hi:ops[i]? =some oi)(hT:ei ops i T=cX mask T)(he:nr P (cN env) oi w R)
   (hw:Region.wanted oi (aU ops env)=true) (hd:iN N oi.dst=true)
   (k:∀v w',R v w'→jt (cX mask T) w'∧WT P N ops K fuel (cX mask T) (aM.setIfInBounds i true) (cP env oi.dst v) w'):
   ∀a,Rel N a env→jt T w→wpOp P ops (xX N K) i (fun a' w'=>wZ ops i T w'∧jD P ops (xX N K) fuel (ei ops i T) (aM.setIfInBounds i true) a' w') a w:=fun a r hp=>by
 rw[←hT] at k;unfold wpOp;have hy:yielded ops a.tmps=aU ops env:=funext fun j=>r.yielded ops j;simp only[hi];rw[hy,if_pos hw];exact .inl (he.wp r fun v w' hR=>⟨vn (k v w' hR).1,(k v w' hR).2 (k v w' hR).1 _ (r.vl hd v)⟩)
end
end Go.Sl
namespace Go.Sl
open Go
abbrev obj(l:List Value)(e:Nat)(fr:Nat×Nat:=(0,0)):Obj:=.cells l.toArray e fr
abbrev aX(b:Nat)(l:List Value)(e:Nat)(fr:Nat×Nat:=(0,0)):aC:=vf b (obj l e fr)
def free(fr:Nat×Nat)(off:Nat):Bool:= !(Nat.ble fr.1 off&&Nat.ble (off+1) fr.2)
theorem Addr.jU(b o n:Nat):(⟨b,o,none⟩:Addr).add n=⟨b,o+n,none⟩:=by unfold Addr.add;split<;>simp_all
section
variable{P:Program}{W0 w:World}{L:List aC}
theorem CI{w:World}{b:Nat}{l:List Value}{e:Nat}{fr:Nat×Nat}(hb:w.heap[b]? =some (obj l e fr)){off:Nat}(hf:free fr off=true):w.frozen? ⟨b,off,none⟩=false:=by
 unfold World.frozen?;rw[hb];simp only[free,Bool.not_eq_true',Bool.and_eq_false_imp,Nat.ble_eq] at hf;show(decide (fr.1≤off)&&decide (off<fr.2))=false;rw[Bool.and_eq_false_imp];intro h;have:=hf (by simpa using h);rw[←Bool.not_eq_true] at this;rw[Nat.ble_eq] at this;simp;omega
theorem Ik{b off:Nat}{l:List Value}{e:Nat}{fr:Nat×Nat}(hb:w.heap[b]? =some (obj l e fr))(dW:off<l.length)(hf:free fr off=true){v:Value}(hv:v.oneCell'=true):
   (store ⟨b,off,none⟩ v).run P w=.ok () (w.setCell ⟨b,off,none⟩ v):=by
 rw[run_store P w _ v _ hv];have hc:w.cell? ⟨b,off,none⟩=some l[off]:=by rw[cell_of_row w b off _ _ _ hb];simp[dW]
 rw[hc,CI hb hf];rfl
theorem oG(g o:Nat)(t:TypeId)(fr:Nat×Nat):∀(vs:List Value) (i:Nat) (cur:Array Value) (w:World),w.heap[g]? =some (.cells cur t fr)→o+i+vs.length≤cur.size→(∀v∈vs,v.oneCell'=true)→
   (∀k,o+i≤k→k<o+i+vs.length→free fr k=true)→
   (storeCells ⟨g,o,none⟩ vs i).run P w=.ok () (w.setRow g (cur.toList.take (o+i)++vs++cur.toList.drop (o+i+vs.length)).toArray)
 | [],i,cur,w,hg,_,_,_=>by
   simp only[storeCells,List.append_nil,List.length_nil,Nat.add_zero,List.take_append_drop,Array.toArray_toList];rw[setRow_self w g cur t fr hg];rfl
 | v::rest,i,cur,w,hg,hl,h1,hfr=>by
   have hi:o+i<cur.size:=by simp at hl;omega
   have Il:(⟨g,o,none⟩:Addr).add i=⟨g,o+i,none⟩:=by unfold Addr.add;split<;>simp_all
   have aaE:w.cell? ⟨g,o+i,none⟩=some cur[o+i]:=by simp[World.cell?,hg,hi]
   have ae8:w.frozen? ⟨g,o+i,none⟩=false:=CI (l:=cur.toList) (by simpa [obj] using hg) (hfr (o+i) (Nat.le_refl _) (by simp))
   have ki:(store ((⟨g,o,none⟩:Addr).add i) v).run P w=.ok () (w.setRow g (cur.setIfInBounds (o+i) v)):=by
     rw[Il,run_store P w _ v _ (h1 v (by simp)),aaE];simp[ae8,setCell_eq_setRow w g (o+i) cur t fr v hg]
   have ih:=oG g o t fr rest (i+1) (cur.setIfInBounds (o+i) v) (w.setRow g (cur.setIfInBounds (o+i) v)) (setRow_heap w g cur _ t _ hg) (by simp at hl⊢;omega) (fun x hx=>h1 x (by simp[hx])) (fun k h1 h2=>hfr k (by omega) (by simp;omega));simp only[storeCells,Sem.run_bind,ki,Result.andThen_ok,ih,setRow_setRow]
   congr 3
   have e:=list_seg_step cur.toList (o+i) v rest (by simp at hl⊢;omega);simpa [Array.toList_setIfInBounds,Nat.add_assoc] using e
def cE(l:List Value)(o:Nat)(vs:List Value):List Value:=l.take o++vs++l.drop (o+vs.length)
theorem cM{l:List Value}{o:Nat}{vs:List Value}(h:o+vs.length≤l.length):(cE l o vs).length=l.length:=by
 simp only[cE,List.length_append,List.length_take,List.length_drop];omega
theorem On.zW(H:On W0 L w)(i:Nat){b:Nat}{l:List Value}{e:Nat}{fr:Nat×Nat}(hi:L[i]? =some (aX b l e fr))(off:Nat)(v:Value):
   On W0 (L.set i (aX b (l.set off v) e fr)) (w.setCell ⟨b,off,none⟩ v):=by
 have:=H.setCell i hi off v;simpa [aX,obj,List.setIfInBounds_toArray] using this
theorem On.storeCells(H:On W0 L w)(i:Nat){b:Nat}{l:List Value}{e:Nat}{fr:Nat×Nat}(hi:L[i]? =some (aX b l e fr))(o:Nat)(vs:List Value)(hl:o+vs.length≤l.length)(h1:∀v∈vs,v.oneCell'=true)
   (hfr:∀k,o≤k→k<o+vs.length→free fr k=true):∃w',(storeCells ⟨b,o,none⟩ vs).run P w=.ok () w'∧On W0 (L.set i (aX b (cE l o vs) e fr)) w':=by
 have ki:=oG (P:=P) b o e fr vs 0 l.toArray w (H.block i hi) (by simpa using hl) h1 (by simpa using hfr);refine⟨_,ki, ?_⟩;have:=H.setRow (cs':=(cE l o vs).toArray) i hi;simpa [cE] using this
end
def x7(h:Hp)(b i:Nat):Option Value:=match h b with
 |some (.cells c _ _)=>c[i]?
 |_=>none
theorem zX{h k:Hp}(s:Sub h k){b i:Nat}{v:Value}(e:x7 h b i=some v):x7 k b i=some v:=by
 unfold x7 at e⊢;cases hb:h b with
 |none=>rw[hb] at e;cases e
 |some o=>rw[s b o hb];rw[hb] at e;exact e
theorem zY(w:World)(b i:Nat):x7 (hp w) b i=w.cell? ⟨b,i,none⟩:=by
 unfold x7 hp World.cell?;split<;>simp_all
def rowAt(b o:Nat)(xs:List Value):aC:=fun h=>∀j u,xs[j]? =some u→x7 h b (o+j)=some u
theorem Im(b o:Nat)(xs:List Value):BY (rowAt b o xs):=fun h k s H j u e=>zX s (H j u e)
def Cells(size:Nat)(v:Value)(n:Nat)(xs:List Value):aC:=fun h=>
 xs.length=n*size∧∃ao cap,v=.slice ao n cap∧n≤cap∧cap≤maxLen∧(ao=none→cap=0)∧(0<n→∃b o,ao=some ⟨b,o,none⟩∧rowAt b o xs h)
theorem jV(size:Nat)(v:Value)(n:Nat)(xs:List Value):BY (Cells size v n xs):=fun h k s ⟨hl,ao,cap,hv,h1,h2,h3,h4⟩=>
 ⟨hl,ao,cap,hv,h1,h2,h3,fun hn=>let⟨b,o,e,r⟩:=h4 hn;⟨b,o,e,Im _ _ _ _ _ s r⟩⟩
def Own(size:Nat)(v:Value)(n:Nat)(xs:List Value):aC:=fun h=>
 xs.length = n * size ∧ ((n = 0 ∧ ∃ ao, v = .slice ao 0 0) ∨
   ∃ g off cap cur e fr,v=.slice (some ⟨g,off,none⟩) n cap∧n≤cap∧cap≤maxLen∧off+cap*size≤cur.length∧(cur.drop off).take (n*size)=xs∧
     (fr.1 = fr.2 ∨ cur.length ≤ fr.1) ∧ h g = some (obj cur e fr))
theorem oH{fr:Nat×Nat}{n:Nat}(h:fr.1=fr.2∨n≤fr.1){k:Nat}(hk:k<n):free fr k=true:=by
 unfold free;simp only[Bool.not_eq_true',Bool.and_eq_false_imp,Nat.ble_eq];intro hle;rw[←Bool.not_eq_true,Nat.ble_eq];omega
theorem FF(size:Nat)(v:Value)(n:Nat)(xs:List Value):BY (Own size v n xs):=fun h k s ⟨hl,H⟩=>
 ⟨hl,H.imp id fun⟨g,off,cap,cur,e,fr,h1,h2,h3,h4,h5,h6,h7⟩=>⟨g,off,cap,cur,e,fr,h1,h2,h3,h4,h5,h6,s _ _ h7⟩⟩
theorem Own.cells{size:Nat}{v:Value}{n:Nat}{xs:List Value}{h:Hp}(H:Own size v n xs h):Cells size v n xs h:=by
 obtain⟨hl,H⟩:=H;rcases H with⟨rfl,ao,rfl⟩|⟨g,off,cap,cur,e,fr,rfl,h1,h2,h3,h4,h5,h6⟩
 · exact⟨hl,ao,0,rfl,Nat.le_refl _,by simp,fun _=>rfl,fun h=>absurd h (Nat.lt_irrefl _)⟩
 refine⟨hl,_,cap,rfl,h1,h2,fun h=>(by cases h),fun _=>⟨g,off,rfl, ?_⟩⟩;intro j u hj;unfold x7;rw[h6];simp only[List.getElem?_toArray];rw[←h4] at hj;rw[List.getElem?_take] at hj;split at hj
 · rw[List.getElem?_drop] at hj;exact hj
 cases hj
theorem On.cells{W0 w:World}{L:List aC}(H:On W0 L w)(i:Nat){size:Nat}{v:Value}{n:Nat}{xs:List Value}(hi:L[i]? =some (Own size v n xs)):Cells size v n xs (hp w):=
 (H.get i hi (FF _ _ _ _)).cells
theorem aB.own{L:List aC}{size:Nat}{v:Value}{n:Nat}{xs:List Value}:aB (Own size v n xs::L) (Cells size v n xs):=aB.head (jV _ _ _ _) fun _=>Own.cells
theorem Cells.cell{w:World}{size:Nat}{v:Value}{n:Nat}{xs:List Value}(H:Cells size v n xs (hp w)){b o c:Nat}(hv:v=.slice (some ⟨b,o,none⟩) n c)(hn:0<n){j:Nat}{u:Value}(hj:xs[j]? =some u):
   w.cell? ⟨b,o+j,none⟩=some u:=by
 obtain⟨hl,ao,cap,B3,h1,h2,h3,h4⟩:=H;obtain⟨b',o',rfl,r⟩:=h4 hn;rw[hv] at B3;simp only[Value.slice.injEq,Option.some.injEq,Addr.mk.injEq] at B3;obtain⟨⟨rfl,rfl,_⟩,_,_⟩:=B3;rw[←zY];exact r j u hj
end Go.Sl
namespace Go.Sl
open Go
section
variable{P:Program}{W0 w:World}{L:List aC}{ρ:Operand→Value}{d:Option Nat}{ty:TypeId}{pos:String}{af:Array Edge}{g:Option (Nat×Bool)}
theorem run_move{x:Operand}:(execOp ρ ⟨d,.move x,ty,pos,af,g⟩).run P w=.ok (.value (ρ x)) w:=rfl
theorem run_assign{x:Operand}:(execOp ρ ⟨d,.assign x,ty,pos,af,g⟩).run P w=.ok (.value (ρ x)) w:=rfl
theorem kj{c a b:Operand}(h:ρ c=.bool true):(execOp ρ ⟨d,.pick c a b,ty,pos,af,g⟩).run P w=.ok (.value (ρ a)) w:=by
 simp[execOp,h,asBool]
theorem lP{c a b:Operand}(h:ρ c=.bool false):(execOp ρ ⟨d,.pick c a b,ty,pos,af,g⟩).run P w=.ok (.value (ρ b)) w:=by
 simp[execOp,h,asBool]
theorem jv{x:Operand}{a:Addr}(h:ρ x=.pointer (some a)):(execOp ρ ⟨d,.nilCheck x,ty,pos,af,g⟩).run P w=.ok (.value (.pointer (some a))) w:=by
 simp[execOp,h]
theorem bZ{x:Operand}{i:Nat}{vs:List Value}{v:Value}(h:ρ x=.tuple vs.toArray)(hv:vs[i]? =some v):(execOp ρ ⟨d,.extract x i,ty,pos,af,g⟩).run P w=.ok (.value v) w:=by
 simp[execOp,h,Instr.extract,hv]
theorem cQ{x:Operand}{t:TypeId}{b:Bool}(h:ρ x=.bool b):(execOp ρ ⟨d,.unOp .not t x,ty,pos,af,g⟩).run P w=.ok (.value (.bool !b)) w:=by
 simp[execOp,h,Op.unary]
theorem fm{s fi n b o:Nat}(off:Nat){x:Operand}{fs:Array Field}{f:Field}(hU:P.underlying s=some (.struct fs))(hf:fs[fi]? =some f)(hS:∀w,(sizeOf f.type).run P w=.ok (n+1) w)(h:ρ x=.pointer (some ⟨b,o,none⟩))(ho:f.offset=off):
   (execOp ρ ⟨d,.fieldAddr s x fi,ty,pos,af,g⟩).run P w=.ok (.value (.pointer (some ⟨b,o+off,none⟩))) w:=by
 subst ho;simp[execOp,Instr.fieldAt,run_underlying hU,hf,h,Instr.sureAddr,fieldPlace,hS,Addr.jU]
theorem bP{t e size n c b o:Nat}{x y:Operand}{k:IntKind}{i:Int}(hU:P.underlying t=some (.slice e))(hS:∀w,(sizeOf e).run P w=.ok size w)
   (hx:ρ x=.slice (some ⟨b,o,none⟩) n c) (hy:ρ y=.int k i) (h0:0≤i) (h1:i<n):
   (execOp ρ ⟨d,.indexAddr t x y,ty,pos,af,g⟩).run P w=.ok (.value (.pointer (some ⟨b,o+i.toNat*size,none⟩))) w:=by
 simp[execOp,Instr.indexAt,run_underlying hU,hx,hy,asIntOf,hS,h0,h1,Addr.jU]
theorem bg{t e size n b o:Nat}{x y:Operand}{k:IntKind}{i:Int}(hU:P.underlying t=some (.array n e))(hS:∀w,(sizeOf e).run P w=.ok size w)
   (hx:ρ x=.pointer (some ⟨b,o,none⟩)) (hy:ρ y=.int k i) (h0:0≤i) (h1:i<n):
   (execOp ρ ⟨d,.indexAddr t x y,ty,pos,af,g⟩).run P w=.ok (.value (.pointer (some ⟨b,o+i.toNat*size,none⟩))) w:=by
 simp[execOp,Instr.indexAt,run_underlying hU,hx,hy,asIntOf,hS,h0,h1,Addr.jU,Instr.sureAddr]
theorem jw{t:TypeId}{x:Operand}{a:Addr}{v:Value}(hA:∀w,(isAgg t).run P w=.ok false w)(h:ρ x=.pointer (some a))(hc:w.cell? a=some v):
   (execOp ρ ⟨d,.load t x,ty,pos,af,g⟩).run P w=.ok (.value v) w:=by
 simp[execOp,Instr.loadAt,h,Instr.sureAddr,loadVar,hA,hc]
theorem gi{t n b o:Nat}{x:Operand}{vs:List Value}(hA:∀w,(isAgg t).run P w=.ok true w)(hS:∀w,(sizeOf t).run P w=.ok n w)(h:ρ x=.pointer (some ⟨b,o,none⟩))(hl:vs.length=n)
   (hc:∀j u,vs[j]? =some u→w.cell? ⟨b,o+j,none⟩=some u):
   (execOp ρ ⟨d,.load t x,ty,pos,af,g⟩).run P w=.ok (.value (.agg vs.toArray)) w:=by
 have:=run_loadCells_list (P:=P) w ⟨b,o,none⟩ vs (fun j v hv=>by rw[Addr.jU];exact hc j v hv);rw[hl] at this;simp[execOp,Instr.loadAt,h,Instr.sureAddr,loadVar,hA,hS,this]
theorem tg{v:Value}(h:v.oneCell'=true):v.cells=#[v]:=by cases v<;>simp_all [Value.oneCell',Value.cells]
theorem qH{t b o:Nat}{x y:Operand}{v:Value}{l:List Value}{e:Nat}{fr:Nat×Nat}(hS:∀w,(sizeOf t).run P w=.ok 1 w)(h:ρ x=.pointer (some ⟨b,o,none⟩))(hy:ρ y=v)(hv:v.oneCell'=true)
   (hb:w.heap[b]? =some (obj l e fr)) (dW:Nat.ble (o+1) l.length=true) (hf:free fr o=true):
   (execOp ρ ⟨d,.store t x y,ty,pos,af,g⟩).run P w=.ok .skip (w.setCell ⟨b,o,none⟩ v):=by
 have ki:=Ik (P:=P) hb (Nat.le_of_ble_eq_true dW) hf hv;simp[execOp,Instr.storeAt,h,hy,Instr.sureAddr,storeVar,hS,tg hv,storeCells,Addr.jU,ki]
theorem ux{t n b o i:Nat}{x y:Operand}{vs:List Value}{l:List Value}{e:Nat}{fr:Nat×Nat}(H:On W0 L w)(hi:L[i]? =some (aX b l e fr))(hS:∀w,(sizeOf t).run P w=.ok n w)(h:ρ x=.pointer (some ⟨b,o,none⟩))(hy:ρ y=.agg vs.toArray)(hn:vs.length=n)
   (hv:∀v∈vs,v.oneCell'=true) (dW:o+n≤l.length) (hf:∀k,o≤k→k<o+n→free fr k=true):
   ∃w',(execOp ρ ⟨d,.store t x y,ty,pos,af,g⟩).run P w=.ok .skip w'∧On W0 (L.set i (aX b (cE l o vs) e fr)) w':=by
 obtain⟨w',ki,hO⟩:=H.storeCells (P:=P) i hi o vs (by omega) hv (by rw[hn];exact hf);refine⟨w', ?_,hO⟩;simp[execOp,Instr.storeAt,h,hy,Instr.sureAddr,storeVar,hS,Value.cells,hn,ki]
theorem Lw{t:Nat}{z:Value}(hZ:∀w,(zeroValue t).run P w=.ok z w):
   (execOp ρ ⟨d,.alloc t,ty,pos,af,g⟩).run P w=.ok (.value (.pointer (some ⟨w.heap.size,0,none⟩))) (w.alloc (.cells z.cells t)):=by
 simp[execOp,Instr.alloc,hZ,newVar,newRow]
theorem SX{t:Nat}{x:Operand}{v:Value}(h:ρ x=v):
   (execOp ρ ⟨d,.box t x,ty,pos,af,g⟩).run P w=.ok (.value (.pointer (some ⟨w.heap.size,0,none⟩))) (w.alloc (.cells v.cells t)):=by
 simp[execOp,Instr.box,h,newVar,newRow]
theorem run_build{t:Nat}{ps:Array (Nat×Operand)}{v:Value}(h:∀w,(Instr.build t (ps.map fun(i,x)=>(i,ρ x))).run P w=.ok v w):
   (execOp ρ ⟨d,.build t ps,ty,pos,af,g⟩).run P w=.ok (.value v) w:=by
 simp[execOp,h]
theorem oI(k:IntKind){n:Int}(h:k.min≤n)(h':n≤k.max):k.wrap n=n:=by
 cases k<;>simp only[IntKind.min,IntKind.max,IntKind.signed,IntKind.bits] at h h'<;>simp at h h'
 · exact IntWalk.i8_in n ⟨by omega,by omega⟩
 · exact IntWalk.i16_in n ⟨by omega,by omega⟩
 · exact IntWalk.i32_in n ⟨by omega,by omega⟩
 · exact IntWalk.i64_in n ⟨by omega,by omega⟩
 · exact IntWalk.u8_in n ⟨by omega,by omega⟩
 · exact IntWalk.u16_in n ⟨by omega,by omega⟩
 · exact IntWalk.u32_in n ⟨by omega,by omega⟩
 exact IntWalk.u64_in n ⟨by omega,by omega⟩
section
variable{t yt:TypeId}{x y:Operand}{k:IntKind}{m n:Int}
theorem eU(hx:ρ x=.int k m)(hy:ρ y=.int k n):(execOp ρ ⟨d,.binOp .add t x y yt,ty,pos,af,g⟩).run P w=.ok (.value (.int k (k.wrap (m+n)))) w:=by
 simp[execOp,eqGuard,hx,hy,binOp,Op.intArith]
theorem iC(hx:ρ x=.int k m)(hy:ρ y=.int k n):(execOp ρ ⟨d,.binOp .sub t x y yt,ty,pos,af,g⟩).run P w=.ok (.value (.int k (k.wrap (m - n)))) w:=by
 simp[execOp,eqGuard,hx,hy,binOp,Op.intArith]
theorem FG(hx:ρ x=.int k m)(hy:ρ y=.int k n):(execOp ρ ⟨d,.binOp .mul t x y yt,ty,pos,af,g⟩).run P w=.ok (.value (.int k (k.wrap (m*n)))) w:=by
 simp[execOp,eqGuard,hx,hy,binOp,Op.intArith]
theorem di(hx:ρ x=.int .i64 m)(hy:ρ y=.int .i64 n)(h: -9223372036854775808≤m+n)(h':m+n≤9223372036854775807):(execOp ρ ⟨d,.binOp .add t x y yt,ty,pos,af,g⟩).run P w=.ok (.value (.int .i64 (m+n))) w:=by
 rw[eU hx hy,IntWalk.i64_in _ ⟨h,h'⟩]
theorem iq(hx:ρ x=.int .i64 m)(hy:ρ y=.int .i64 n)(h: -9223372036854775808≤m - n)(h':m - n≤9223372036854775807):(execOp ρ ⟨d,.binOp .sub t x y yt,ty,pos,af,g⟩).run P w=.ok (.value (.int .i64 (m - n))) w:=by
 rw[iC hx hy,IntWalk.i64_in _ ⟨h,h'⟩]
theorem gK{m n:Nat}(hx:ρ x=.int .i64 (m:Int))(hy:ρ y=.int .i64 (n:Int))(h:m+n≤9223372036854775807):(execOp ρ ⟨d,.binOp .add t x y yt,ty,pos,af,g⟩).run P w=.ok (.value (.int .i64 ((m+n:Nat):Int))) w:=by
 rw[di hx hy (by omega) (by omega)];rfl
theorem FH{m:Nat}(hx:ρ x=.int .i64 (m:Int))(hy:ρ y=.int .i64 1)(h:m+1≤9223372036854775807):(execOp ρ ⟨d,.binOp .add t x y yt,ty,pos,af,g⟩).run P w=.ok (.value (.int .i64 ((m+1:Nat):Int))) w:=by
 rw[di hx hy (by omega) (by omega)];rfl
theorem iD{m n:Nat}(hx:ρ x=.int .i64 (m:Int))(hy:ρ y=.int .i64 (n:Int))(h:n≤m)(h':m≤9223372036854775807):(execOp ρ ⟨d,.binOp .sub t x y yt,ty,pos,af,g⟩).run P w=.ok (.value (.int .i64 ((m - n:Nat):Int))) w:=by
 rw[iq hx hy (by omega) (by omega),Int.ofNat_sub h]
theorem dr{m n:Nat}(hx:ρ x=.int .i64 (m:Int))(hy:ρ y=.int .i64 (n:Int))(h:m*n≤9223372036854775807):(execOp ρ ⟨d,.binOp .mul t x y yt,ty,pos,af,g⟩).run P w=.ok (.value (.int .i64 ((m*n:Nat):Int))) w:=by
 rw[FG hx hy,IntWalk.i64_in _ (by constructor<;>(rw[←Int.natCast_mul];omega))];rfl
theorem zv(hx:ρ x=.int .i64 m)(hy:ρ y=.int .i64 n)(h: -9223372036854775808≤m*n)(h':m*n≤9223372036854775807):(execOp ρ ⟨d,.binOp .mul t x y yt,ty,pos,af,g⟩).run P w=.ok (.value (.int .i64 (m*n))) w:=by
 rw[FG hx hy,IntWalk.i64_in _ ⟨h,h'⟩]
theorem qJ(hx:ρ x=.int .i64 m)(hy:ρ y=.int .i64 n)(h:0≤m)(h2:m≤9223372036854775807)(h':1≤n):(execOp ρ ⟨d,.binOp .quo t x y yt,ty,pos,af,g⟩).run P w=.ok (.value (.int .i64 (m / n))) w:=by
 have hn:n≠0:=by omega
 simp[execOp,eqGuard,hx,hy,binOp,Op.intDiv,hn,IntWalk.i64_quo m n ⟨h,h2,h'⟩]
theorem oJ(hx:ρ x=.int k m)(hy:ρ y=.int k n)(h:0≤m)(h':n≠0):(execOp ρ ⟨d,.binOp .rem t x y yt,ty,pos,af,g⟩).run P w=.ok (.value (.int k (m % n))) w:=by
 simp[execOp,eqGuard,hx,hy,binOp,Op.intDiv,h',Int.tmod_eq_emod_of_nonneg h]
theorem rV(hx:ρ x=.int k m)(hy:ρ y=.int k n)(h':n≠0):(execOp ρ ⟨d,.binOp .rem t x y yt,ty,pos,af,g⟩).run P w=.ok (.value (.int k (m.tmod n))) w:=by
 simp[execOp,eqGuard,hx,hy,binOp,Op.intDiv,h']
theorem SY(hx:ρ x=.int k m)(hy:ρ y=.int k n):(execOp ρ ⟨d,.binOp .and t x y yt,ty,pos,af,g⟩).run P w=.ok (.value (.int k (k.wrap (BitVec.ofInt k.bits m&&&BitVec.ofInt k.bits n).toNat))) w:=by
 simp[execOp,eqGuard,hx,hy,binOp,Op.intBits]
theorem WH(hx:ρ x=.int k m)(hy:ρ y=.int k n):(execOp ρ ⟨d,.binOp .or t x y yt,ty,pos,af,g⟩).run P w=.ok (.value (.int k (k.wrap (BitVec.ofInt k.bits m|||BitVec.ofInt k.bits n).toNat))) w:=by
 simp[execOp,eqGuard,hx,hy,binOp,Op.intBits]
theorem SZ(hx:ρ x=.int k m)(hy:ρ y=.int k n):(execOp ρ ⟨d,.binOp .xor t x y yt,ty,pos,af,g⟩).run P w=.ok (.value (.int k (k.wrap (BitVec.ofInt k.bits m^^^BitVec.ofInt k.bits n).toNat))) w:=by
 simp[execOp,eqGuard,hx,hy,binOp,Op.intBits]
theorem S0{ky:IntKind}(hx:ρ x=.int k m)(hy:ρ y=.int ky n)(h:0≤n):(execOp ρ ⟨d,.binOp .shl t x y yt,ty,pos,af,g⟩).run P w=.ok (.value (.int k (k.wrap (m*2^(min n.toNat k.bits))))) w:=by
 have:¬n<0:=by omega
 simp[execOp,eqGuard,hx,hy,binOp,Op.shift,this]
theorem S1{ky:IntKind}(hx:ρ x=.int k m)(hy:ρ y=.int ky n)(h:0≤n):(execOp ρ ⟨d,.binOp .shr t x y yt,ty,pos,af,g⟩).run P w=.ok (.value (.int k (m.fdiv (2^(min n.toNat k.bits))))) w:=by
 have:¬n<0:=by omega
 simp[execOp,eqGuard,hx,hy,binOp,Op.shift,this]
theorem cH(hx:ρ x=.int k m)(hy:ρ y=.int k n):(execOp ρ ⟨d,.binOp .lss t x y yt,ty,pos,af,g⟩).run P w=.ok (.value (.bool (decide (m<n)))) w:=by
 simp[execOp,eqGuard,hx,hy,binOp,Op.intCmp]
theorem jR(hx:ρ x=.int k m)(hy:ρ y=.int k n):(execOp ρ ⟨d,.binOp .leq t x y yt,ty,pos,af,g⟩).run P w=.ok (.value (.bool (decide (m≤n)))) w:=by
 simp[execOp,eqGuard,hx,hy,binOp,Op.intCmp]
theorem iU(hx:ρ x=.int k m)(hy:ρ y=.int k n):(execOp ρ ⟨d,.binOp .gtr t x y yt,ty,pos,af,g⟩).run P w=.ok (.value (.bool (decide (n<m)))) w:=by
 simp[execOp,eqGuard,hx,hy,binOp,Op.intCmp]
theorem eA(hx:ρ x=.int k m)(hy:ρ y=.int k n):(execOp ρ ⟨d,.binOp .geq t x y yt,ty,pos,af,g⟩).run P w=.ok (.value (.bool (decide (n≤m)))) w:=by
 simp[execOp,eqGuard,hx,hy,binOp,Op.intCmp]
theorem cL(hx:ρ x=.int k m)(hy:ρ y=.int k n):(execOp ρ ⟨d,.binOp .eql t x y yt,ty,pos,af,g⟩).run P w=.ok (.value (.bool (decide (m=n)))) w:=by
 simp[execOp,eqGuard,hx,hy,binOp,Op.intCmp];rfl
theorem e7(hx:ρ x=.int k m)(hy:ρ y=.int k n):(execOp ρ ⟨d,.binOp .neq t x y yt,ty,pos,af,g⟩).run P w=.ok (.value (.bool (decide (m≠n)))) w:=by
 simp[execOp,eqGuard,hx,hy,binOp,Op.intCmp,bne];rfl
theorem FI(hx:ρ x=.int k m)(hy:ρ y=.int k n)(h:m<n):(execOp ρ ⟨d,.binOp .lss t x y yt,ty,pos,af,g⟩).run P w=.ok (.value (.bool true)) w:=by rw[cH hx hy];simp[h]
theorem dB(hx:ρ x=.int k m)(hy:ρ y=.int k n)(h:¬m<n):(execOp ρ ⟨d,.binOp .lss t x y yt,ty,pos,af,g⟩).run P w=.ok (.value (.bool false)) w:=by rw[cH hx hy];simp[h]
theorem vo(hx:ρ x=.int k m)(hy:ρ y=.int k n)(h:m≤n):(execOp ρ ⟨d,.binOp .leq t x y yt,ty,pos,af,g⟩).run P w=.ok (.value (.bool true)) w:=by rw[jR hx hy];simp[h]
theorem N8(hx:ρ x=.int k m)(hy:ρ y=.int k n)(h:¬m≤n):(execOp ρ ⟨d,.binOp .leq t x y yt,ty,pos,af,g⟩).run P w=.ok (.value (.bool false)) w:=by rw[jR hx hy];simp[h]
theorem zZ(hx:ρ x=.int k m)(hy:ρ y=.int k n)(h:n<m):(execOp ρ ⟨d,.binOp .gtr t x y yt,ty,pos,af,g⟩).run P w=.ok (.value (.bool true)) w:=by rw[iU hx hy];simp[h]
theorem eV(hx:ρ x=.int k m)(hy:ρ y=.int k n)(h:¬n<m):(execOp ρ ⟨d,.binOp .gtr t x y yt,ty,pos,af,g⟩).run P w=.ok (.value (.bool false)) w:=by rw[iU hx hy];simp[h]
theorem N9(hx:ρ x=.int k m)(hy:ρ y=.int k n)(h:n≤m):(execOp ρ ⟨d,.binOp .geq t x y yt,ty,pos,af,g⟩).run P w=.ok (.value (.bool true)) w:=by rw[eA hx hy];simp[h]
theorem nM(hx:ρ x=.int k m)(hy:ρ y=.int k n)(h:¬n≤m):(execOp ρ ⟨d,.binOp .geq t x y yt,ty,pos,af,g⟩).run P w=.ok (.value (.bool false)) w:=by rw[eA hx hy];simp[h]
theorem gL(hx:ρ x=.int k m)(hy:ρ y=.int k n)(h:m=n):(execOp ρ ⟨d,.binOp .eql t x y yt,ty,pos,af,g⟩).run P w=.ok (.value (.bool true)) w:=by rw[cL hx hy];simp[h]
theorem iE(hx:ρ x=.int k m)(hy:ρ y=.int k n)(h:¬m=n):(execOp ρ ⟨d,.binOp .eql t x y yt,ty,pos,af,g⟩).run P w=.ok (.value (.bool false)) w:=by rw[cL hx hy];simp[h]
theorem z6(hx:ρ x=.int k m)(hy:ρ y=.int k n)(h:¬m=n):(execOp ρ ⟨d,.binOp .neq t x y yt,ty,pos,af,g⟩).run P w=.ok (.value (.bool true)) w:=by rw[e7 hx hy];simp[h]
theorem bY(hx:ρ x=.int k m)(hy:ρ y=.int k n)(h:m=n):(execOp ρ ⟨d,.binOp .neq t x y yt,ty,pos,af,g⟩).run P w=.ok (.value (.bool false)) w:=by rw[e7 hx hy];simp[h]
end
theorem ko{s t:TypeId}{x:Operand}{k j:IntKind}{n:Int}{ds:TypeDesc}(hs:P.underlying s=some ds)(ht:P.underlying t=some (.int k))(hx:ρ x=.int j n):
   (execOp ρ ⟨d,.convert s t x,ty,pos,af,g⟩).run P w=.ok (.value (.int k (k.wrap n))) w:=by
 simp[execOp,convert,run_underlying hs,run_underlying ht,hx,Conv.intToInt]
theorem Sq{s t:TypeId}{x:Operand}{j:IntKind}{n:Int}{ds:TypeDesc}(hs:P.underlying s=some ds)(ht:P.underlying t=some (.int .i64))(hx:ρ x=.int j n)(h: -9223372036854775808≤n)(h':n≤9223372036854775807):
   (execOp ρ ⟨d,.convert s t x,ty,pos,af,g⟩).run P w=.ok (.value (.int .i64 n)) w:=by
 rw[ko hs ht hx,IntWalk.i64_in _ ⟨h,h'⟩]
theorem Lx{t:TypeId}{a b:Bool}(hU:P.underlying t=some .bool)(n:Nat):(Op.equalIn (n+1) t (.bool a) (.bool b)).run P w=.ok (a==b) w:=by
 simp[Op.equalIn,run_underlying hU]
theorem x8{t e:TypeId}{a:Option Addr}(hU:P.underlying t=some (.pointer e))(n:Nat):(Op.equalIn (n+1) t (.pointer a) (.pointer none)).run P w=.ok a.isNone w:=by
 cases a<;>simp[Op.equalIn,run_underlying hU]
theorem B4{t e:TypeId}{a:Option Addr}{l c:Nat}(hU:P.underlying t=some (.slice e))(n:Nat):(Op.equalIn (n+1) t (.slice a l c) (.slice none 0 0)).run P w=.ok a.isNone w:=by
 cases a<;>simp[Op.equalIn,run_underlying hU]
theorem x9{t yt:TypeId}{x y:Operand}{a b:Bool}(hU:P.underlying t=some .bool)(hx:ρ x=.bool a)(hy:ρ y=.bool b):(execOp ρ ⟨d,.binOp .neq t x y yt,ty,pos,af,g⟩).run P w=.ok (.value (.bool (!(a==b)))) w:=by
 have:=Lx (P:=P) (w:=w) (a:=a) (b:=b) hU 9999;simp[execOp,eqGuard,hx,hy,binOp,Op.equal,Op.maxDepth,this]
theorem D5{α:Type}[BEq α][LawfulBEq α][DecidableEq α](a b:List α):(a==b)=decide (a=b):=by
 rw[Bool.eq_iff_iff];simp
theorem uy{t yt:TypeId}{x y:Operand}{a b:ByteArray}(hx:ρ x=.string a)(hy:ρ y=.string b):(execOp ρ ⟨d,.binOp .eql t x y yt,ty,pos,af,g⟩).run P w=.ok (.value (.bool (decide (a.toList=b.toList)))) w:=by
 simp[execOp,eqGuard,hx,hy,binOp,Op.stringOp,D5]
theorem FJ{t yt:TypeId}{x y:Operand}{a b:ByteArray}(hx:ρ x=.string a)(hy:ρ y=.string b)(h:a.toList=b.toList):(execOp ρ ⟨d,.binOp .eql t x y yt,ty,pos,af,g⟩).run P w=.ok (.value (.bool true)) w:=by rw[uy hx hy];simp[h]
theorem gz{t yt e:TypeId}{x y:Operand}{a:Option Addr}(hU:P.underlying t=some (.pointer e))(hx:ρ x=.pointer a)(hy:ρ y=.pointer none):(execOp ρ ⟨d,.binOp .eql t x y yt,ty,pos,af,g⟩).run P w=.ok (.value (.bool a.isNone)) w:=by
 have:=x8 (P:=P) (w:=w) (a:=a) hU 9999;simp[execOp,eqGuard,hx,hy,binOp,Op.equal,Op.maxDepth,this]
theorem fq{t yt e:TypeId}{x y:Operand}{a:Option Addr}(hU:P.underlying t=some (.pointer e))(hx:ρ x=.pointer a)(hy:ρ y=.pointer none):(execOp ρ ⟨d,.binOp .neq t x y yt,ty,pos,af,g⟩).run P w=.ok (.value (.bool (!a.isNone))) w:=by
 have:=x8 (P:=P) (w:=w) (a:=a) hU 9999;simp[execOp,eqGuard,hx,hy,binOp,Op.equal,Op.maxDepth,this]
theorem iF{t yt e:TypeId}{x y:Operand}{a:Option Addr}{l c:Nat}(hU:P.underlying t=some (.slice e))(hx:ρ x=.slice a l c)(hy:ρ y=.slice none 0 0):(execOp ρ ⟨d,.binOp .eql t x y yt,ty,pos,af,g⟩).run P w=.ok (.value (.bool a.isNone)) w:=by
 have:=B4 (P:=P) (w:=w) (a:=a) (l:=l) (c:=c) hU 9999;simp[execOp,eqGuard,hx,hy,binOp,Op.equal,Op.maxDepth,this]
theorem kO{t n c:Nat}{x:Operand}{e:TypeId}{a:Option Addr}(hU:P.underlying t=some (.slice e))(hx:ρ x=.slice a n c):
   (execOp ρ ⟨d,.call {callee:=.builtin .len,args:=#[x],argTypes:=#[t]},ty,pos,af,g⟩).run P w=.ok (.value (.int .i64 n)) w:=by
 simp[execOp,resolve,invoke,builtin,Builtin.len_,run_underlying hU,hx,goInt]
theorem Oa{f:FuncId}{xs:List Operand}{qK:Array TypeId}(h:∀args w,(callFunc f args).run P w=.ok (.enter f args) w):
   (execOp ρ ⟨d,.call {callee:=.value (.func f),args:=xs.toArray,argTypes:=qK},ty,pos,af,g⟩).run P w=.ok (.enter f (xs.map ρ).toArray) w∨ρ (.func f)≠ .func (.func f) #[] #[]:=by
 by_cases hf:ρ (.func f)=.func (.func f) #[] #[]
 · left
   simp[execOp,resolve,hf,Deferred.ofValue,invoke,h]
 exact .inr hf
theorem Lz{env:Env}{f:FuncId}{xs:List Operand}{qK:Array TypeId}(h:∀args w,(callFunc f args).run P w=.ok (.enter f args) w):
   (execOp (cN env) ⟨d,.call {callee:=.value (.func f),args:=xs.toArray,argTypes:=qK},ty,pos,af,g⟩).run P w=.ok (.enter f (xs.map (cN env)).toArray) w:=
 (Oa h).resolve_right (fun hn=>hn rfl)
theorem LA{env:Env}{x:Operand}{f:FuncId}{first captured:Array Value}{xs:List Operand}{qK:Array TypeId}(hx:cN env x=.func (.func f) first captured)(h:∀args w,(callFunc f args).run P w=.ok (.enter f args) w):
   (execOp (cN env) ⟨d,.call {callee:=.value x,args:=xs.toArray,argTypes:=qK},ty,pos,af,g⟩).run P w=.ok (.enter f (first++(xs.map (cN env)).toArray++captured)) w:=by
 simp[execOp,resolve,hx,Deferred.ofValue,invoke,h]
end
end Go.Sl
namespace Go.Sl
open Go
class dQ(L:List aC)(b:Nat)(l:outParam (List Value))(e:outParam Nat)(fr:outParam (Nat×Nat)):Prop where
 out:∀h,Sat L h→h b=some (obj l e fr)
instance dQ.here {L : List aC} {b : Nat} {l : List Value} {e : Nat} {fr : Nat × Nat} : dQ (aX b l e fr :: L) b l e fr := ⟨fun h H => by
 obtain ⟨h1, s, a⟩ := H.fact; exact s _ _ a⟩
instance(priority:=low) dQ.there {A:aC} {L:List aC} {b:Nat} {l:List Value} {e:Nat} {fr:Nat×Nat} [i:dQ L b l e fr]:dQ (A::L) b l e fr:=⟨fun h H=>i.out _ H.tail⟩
class S2(L:List aC)(b:Nat)(l:outParam (List Value))(e:outParam Nat)(fr:outParam (Nat×Nat))(l':List Value)(L':outParam (List aC)):Prop where
 i:∃i,L[i]? =some (aX b l e fr)∧L'=L.set i (aX b l' e fr)
instance S2.here{L:List aC}{b:Nat}{l l':List Value}{e:Nat}{fr:Nat×Nat}:S2 (aX b l e fr::L) b l e fr l' (aX b l' e fr::L):=⟨0,rfl,rfl⟩
instance (priority := low) S2.there {A : aC} {L L' : List aC} {b : Nat} {l l' : List Value} {e : Nat} {fr : Nat × Nat} [u : S2 L b l e fr l' L'] : S2 (A :: L) b l e fr l' (A :: L') := ⟨by
 obtain ⟨i, h1, h2⟩ := u.i;exact ⟨i + 1, by simpa using h1, by rw [h2]; rfl⟩⟩
section
variable{P:Program}{W0 w:World}{L:List aC}{ρ:Operand→Value}{d:Option Nat}{ty:TypeId}{pos:String}{af:Array Edge}{g:Option (Nat×Bool)}
theorem On.ae9(H:On W0 L w){b:Nat}{l:List Value}{e:Nat}{fr:Nat×Nat}[i:dQ L b l e fr]:w.heap[b]? =some (obj l e fr):=i.out _ H.sat
theorem On.aS(H:On W0 L w){b off:Nat}{l:List Value}{e:Nat}{fr:Nat×Nat}{v:Value}[i:dQ L b l e fr](hv:l[off]? =some v):w.cell? ⟨b,off,none⟩=some v:=by
 rw[cell_of_row w b off _ _ _ (H.ae9 (i:=i))];simpa using hv
theorem On.WI(H:On W0 L w){b o n:Nat}{l:List Value}{e:Nat}{fr:Nat×Nat}[i:dQ L b l e fr]:∀j u,((l.drop o).take n)[j]? =some u→w.cell? ⟨b,o+j,none⟩=some u:=by
 intro j u hj;rw[List.getElem?_take] at hj;split at hj
 · rw[List.getElem?_drop] at hj;exact H.aS (i:=i) hj
 cases hj
theorem On.fR(H:On W0 L w){b o n:Nat}{l vs:List Value}{e:Nat}{fr:Nat×Nat}[i:dQ L b l e fr](hv:(l.drop o).take n=vs):∀j u,vs[j]? =some u→w.cell? ⟨b,o+j,none⟩=some u:=fun j u hj=>H.WI (i:=i) (n:=n) j u (by rw[hv];exact hj)
theorem CJ{t n b o:Nat}{x:Operand}{l vs:List Value}{e:Nat}{fr:Nat×Nat}(H:On W0 L w)(hA:∀w,(isAgg t).run P w=.ok true w)(hS:∀w,(sizeOf t).run P w=.ok n w)(h:ρ x=.pointer (some ⟨b,o,none⟩))[i:dQ L b l e fr]
   (hv:(l.drop o).take n=vs) (hl:vs.length=n):(execOp ρ ⟨d,.load t x,ty,pos,af,g⟩).run P w=.ok (.value (.agg vs.toArray)) w:=
 gi hA hS h hl (fun j u hj=>H.WI (i:=i) (n:=n) j u (by rw[hv];exact hj))
variable{A B C D E F:aC}
theorem On.p1(H:On W0 (A::B::L) w):On W0 (B::A::L) w:=H.imp fun _ h=>h.swap
theorem On.p2(H:On W0 (A::B::C::L) w):On W0 (C::A::B::L) w:=H.pull 2 rfl
theorem On.p3(H:On W0 (A::B::C::D::L) w):On W0 (D::A::B::C::L) w:=H.pull 3 rfl
theorem On.p4(H:On W0 (A::B::C::D::E::L) w):On W0 (E::A::B::C::D::L) w:=H.pull 4 rfl
theorem On.q2(H:On W0 (A::B::C::L) w):On W0 (B::C::A::L) w:=H.p2.p2
theorem On.d1(H:On W0 (A::B::L) w):On W0 (A::L) w:=H.p1.tail
theorem On.d2(H:On W0 (A::B::C::L) w):On W0 (A::B::L) w:=H.p2.tail
theorem On.d4(H:On W0 (A::B::C::D::E::L) w):On W0 (A::B::C::D::L) w:=H.p4.tail
theorem On.head(H:On W0 (A::L) w)(i:∀h,A h→B h):On W0 (B::L) w:=H.imp fun _ h=>h.imp i
theorem On.Ob{ι:Type}{G:ι→aC}(H:On W0 ((fun h=>∃x,G x h)::L) w):∃x,On W0 (G x::L) w:=by
 obtain⟨h1,h2,d,s1,s2,⟨x,a⟩,r⟩:=H.sat;exact⟨x,H.os,H.output,H.tape,H.size,⟨h1,h2,d,s1,s2,a,r⟩⟩
theorem bI{t b o:Nat}{x y:Operand}{v:Value}{l:List Value}{e:Nat}{fr:Nat×Nat}{L':List aC}(H:On W0 L w)(hS:∀w,(sizeOf t).run P w=.ok 1 w)(h:ρ x=.pointer (some ⟨b,o,none⟩))(hy:ρ y=v)(hv:v.oneCell'=true)
   [u:S2 L b l e fr (l.set o v) L'] (dW:Nat.ble (o+1) l.length=true) (hf:free fr o=true):
   nr P ρ ⟨d,.store t x y,ty,pos,af,g⟩ w (fun _ w'=>On W0 L' w'):=by
 obtain⟨i,h1,h2⟩:=u.i;refine .inr (.inl ⟨_,qH hS h hy hv (H.block i h1) dW hf, ?_⟩);rw[h2];exact H.zW i h1 o v
theorem uz{t n b o:Nat}{x y:Operand}{vs:List Value}{l:List Value}{e:Nat}{fr:Nat×Nat}{L':List aC}(H:On W0 L w)(hS:∀w,(sizeOf t).run P w=.ok n w)(h:ρ x=.pointer (some ⟨b,o,none⟩))(hy:ρ y=.agg vs.toArray)(hn:vs.length=n)
   (hv:vs.all (·.oneCell')=true) [u:S2 L b l e fr (cE l o vs) L'] (dW:Nat.ble (o+n) l.length=true) (hf:∀k,o≤k→k<o+n→free fr k=true):
   nr P ρ ⟨d,.store t x y,ty,pos,af,g⟩ w (fun _ w'=>On W0 L' w'):=by
 obtain⟨i,h1,h2⟩:=u.i;obtain⟨w',hr,hO⟩:=ux (P:=P) (ρ:=ρ) (d:=d) (ty:=ty) (pos:=pos) (af:=af) (g:=g) H h1 hS h hy hn (by simpa using hv) (Nat.le_of_ble_eq_true dW) hf;exact .inr (.inl ⟨w',hr,h2▸hO⟩)
theorem bA{t n b:Nat}{x y:Operand}{vs:List Value}{l:List Value}{e:Nat}{L':List aC}(H:On W0 L w)(hS:∀w,(sizeOf t).run P w=.ok n w)(h:ρ x=.pointer (some ⟨b,0,none⟩))(hy:ρ y=.agg vs.toArray)(hn:vs.length=n)
   (hv:vs.all (·.oneCell')=true) [u:S2 L b l e (0,0) vs L'] (hl:Nat.beq l.length n=true):
   nr P ρ ⟨d,.store t x y,ty,pos,af,g⟩ w (fun _ w'=>On W0 L' w'):=by
 have hl:l.length=vs.length:=by rw[hn];exact Nat.eq_of_beq_eq_true hl
 have lF:cE l 0 vs=vs:=by simp[cE,hl]
 have u':S2 L b l e (0,0) (cE l 0 vs) L':=by rw[lF];exact u
 exact uz (u:=u') H hS h hy hn hv (by rw[Nat.ble_eq];omega) (fun k _ _=>by unfold free;rw[Bool.not_eq_true',Bool.and_eq_false_imp];intro _;rw[←Bool.not_eq_true,Nat.ble_eq];show ¬(k+1≤0);omega)
theorem bR{t:Nat}{z:Value}{l:List Value}(H:On W0 L w)(hZ:∀w,(zeroValue t).run P w=.ok z w)(hz:z.cells=l.toArray):
   nr P ρ ⟨d,.alloc t,ty,pos,af,g⟩ w (fun v w'=>∃b,v=.pointer (some ⟨b,0,none⟩)∧On W0 (aX b l t::L) w'):=
 .inl ⟨_,_,Lw hZ,_,rfl,by rw[hz];exact H.alloc _⟩
theorem fc{t:Nat}{x:Operand}{v:Value}{l:List Value}(H:On W0 L w)(h:ρ x=v)(hz:v.cells=l.toArray):
   nr P ρ ⟨d,.box t x,ty,pos,af,g⟩ w (fun v w'=>∃b,v=.pointer (some ⟨b,0,none⟩)∧On W0 (aX b l t::L) w'):=
 .inl ⟨_,_,SX h,_,rfl,by rw[hz];exact H.alloc _⟩
theorem ag{env:Env}{f:FuncId}{xs:List Operand}{qK:Array TypeId}{R:Value→World→Prop}(hf:∀args w,(callFunc f args).run P w=.ok (.enter f args) w)(hc:Calls P f (xs.map (cN env)).toArray w (wU R)):
   nr P (cN env) ⟨d,.call {callee:=.value (.func f),args:=xs.toArray,argTypes:=qK},ty,pos,af,g⟩ w R:=
 .inr (.inr ⟨f,_,w,Lz hf,hc⟩)
def kP(pl:List (Nat×Nat)):List Value→List (Nat×Value)→List Value
 |z,[]=>z
 |z,(i,v)::ps=>kP pl (cE z ((pl[i]?.getD (0,0)).1) v.cells.toList) ps
def fits(pl:List (Nat×Nat))(n:Nat):List (Nat×Value)→Prop
 |[]=>True
 |(i,v)::ps=>(∃off size,pl[i]? =some (off,size)∧v.cells.size=size∧off+size≤n)∧fits pl n ps
theorem vp(z:List Value)(off:Nat)(vs:List Value):∀(k:Nat),off+k+vs.length≤z.length→
   (vs.zipIdx k).foldl (fun cs (c,j)=>cs.setIfInBounds (off+j) c) z.toArray=(cE z (off+k) vs).toArray:=by
 induction vs generalizing z with
 |nil=>intro k h;simp[cE]
 | cons v vs ih=>
   intro k h;simp at h;simp only[List.zipIdx_cons,List.foldl_cons,List.setIfInBounds_toArray];rw[ih (z.set (off+k) v) (k+1) (by simp;omega)]
   congr 1
   unfold cE;have:=list_seg_step z (off+k) v vs (by omega);simpa [Nat.add_assoc] using this
theorem ya(place:Nat→Option (Nat×Nat))(pl:List (Nat×Nat))(hp:∀i,place i=pl[i]?):∀(ps:List (Nat×Value)) (z:List Value),fits pl z.length ps→Instr.fill place z.toArray ps=some (kP pl z ps).toArray:=by
 intro ps
 induction ps with
 |nil=>intro z _;rfl
 | cons p ps ih=>
   obtain⟨i,v⟩:=p;intro z h;obtain⟨⟨off,size,h1,h2,h3⟩,h4⟩:=h;unfold Instr.fill;rw[hp,h1];have hle:v.cells.toList.length=size:=by simpa using h2
   have c:¬(v.cells.size≠size∨off+v.cells.size>z.toArray.size):=by simp[h2];omega
   simp only[Bool.or_eq_true,decide_eq_true_eq];rw[if_neg (by simpa using c)];have hf:=vp z off v.cells.toList 0 (by simp at hle⊢;omega)
   have e:(v.cells.zipIdx.foldl (fun cs (x:Value×Nat)=>cs.setIfInBounds (off+x.2) x.1) z.toArray)=(cE z off v.cells.toList).toArray:=by
     rw[←Array.foldl_toList];simpa using hf
   rw[e,ih _ (by rw[cM (by omega)];exact h4)];simp[kP,h1]
theorem aP{t:Nat}{ps:List (Nat×Operand)}{fs:Array Field}{z:List Value}{pl:List (Nat×Nat)}{vs:List (Nat×Value)}{out:List Value}
   (hU:P.underlying t=some (.struct fs)) (hZ:∀w,(zeroValue t).run P w=.ok (.agg z.toArray) w) (hP:∀w,((fs.mapM fun f=>do pure (f.offset,←sizeOf f.type):Sem (Array (Nat×Nat)))).run P w=.ok pl.toArray w)
   (hv:ps.map (fun p=>(p.1,ρ p.2))=vs) (hf:fits pl z.length vs) (ho:kP pl z vs=out):
   (execOp ρ ⟨d,.build t ps.toArray,ty,pos,af,g⟩).run P w=.ok (.value (.agg out.toArray)) w:=by
 have h:∀w,(Instr.build t (ps.toArray.map fun(i,x)=>(i,ρ x))).run P w=.ok (.agg out.toArray) w:=by
   intro w;have hm:(ps.toArray.map fun(x:Nat×Operand)=>(x.1,ρ x.2)).toList=vs:=by rw[←hv];simp
   unfold Instr.build;simp only[Sem.run_bind,hZ,Result.andThen_ok,run_underlying hU];rw[hP];simp only[Result.andThen_ok,Value.cells];have:=ya (fun i=>pl.toArray[i]?) pl (by simp) vs z hf;rw[hm,this,ho];rfl
 exact run_build h
theorem z7{t n e size:Nat}{ps:List (Nat×Operand)}{z:Value}{zl:List Value}{pl:List (Nat×Nat)}{vs:List (Nat×Value)}{out:List Value}(H:On W0 L w)
   (hU:P.underlying t=some (.slice e)) (hS:∀w,(sizeOf e).run P w=.ok size w) (hZ:∀w,(zeroValue e).run P w=.ok z w) (Oc:n*size≤16777216) (ZH:((Array.range (n*size)).map fun i=>(if n*size=0 then #[] else z.cells)[i % (if n*size=0 then #[] else z.cells).size]!)=zl.toArray)
   (ja:pl=(List.range n).map fun i=>(i*size,size))
   (hv:ps.map (fun p=>(p.1,ρ p.2))=vs) (dW:∀p∈vs,p.1<n) (hf:fits pl zl.length vs) (ho:kP pl zl vs=out):
   nr P ρ ⟨d,.buildSlice t n ps.toArray,ty,pos,af,g⟩ w (fun v w'=>∃b,v=.slice (some ⟨b,0,none⟩) n n∧On W0 (aX b out e::L) w'):=by
 refine .inl ⟨.slice (some ⟨w.heap.size,0,none⟩) n n,w.alloc (obj out e), ?_,_,rfl,H.alloc _⟩;have hm:(ps.toArray.map fun(x:Nat×Operand)=>(x.1,ρ x.2)).toList=vs:=by rw[←hv];simp
 have hsm:¬(n*size>2^24):=by omega
 have key:∀(vs:List (Nat×Value)) (zl:List Value),(∀p∈vs,p.1<n)→fits pl zl.length vs→Instr.fill (fun i=>some (i*size,size)) zl.toArray vs=some (kP pl zl vs).toArray:=by
   intro vs
   induction vs with
   |nil=>intro zl _ _;rfl
   | cons p ps ih=>
     obtain⟨i,v⟩:=p;intro zl dW h;obtain⟨⟨off,aiw,h1,h2,h3⟩,h4⟩:=h;have hi:i<n:=dW (i,v) (by simp);have CK:pl[i]? =some (i*size,size):=by rw[ja];simp[hi]
     rw[CK] at h1;cases h1;have:=ya (fun j=>if j=i then some (i*size,size) else none) [];unfold Instr.fill;have hle:v.cells.toList.length=size:=by simpa using h2
     have c:¬(v.cells.size≠size∨i*size+v.cells.size>zl.toArray.size):=by simp[h2];omega
     simp only[Bool.or_eq_true,decide_eq_true_eq];rw[if_neg (by simpa using c)];have hf:=vp zl (i*size) v.cells.toList 0 (by simp at hle⊢;omega)
     have e:(v.cells.zipIdx.foldl (fun cs (x:Value×Nat)=>cs.setIfInBounds (i*size+x.2) x.1) zl.toArray)=(cE zl (i*size) v.cells.toList).toArray:=by
       rw[←Array.foldl_toList];simpa using hf
     rw[e,ih _ (fun q hq=>dW q (List.mem_cons_of_mem _ hq)) (by rw[cM (by omega)];exact h4)];simp[kP,CK]
 have Oe:=key vs zl dW hf;rw[ho] at Oe;simp only[execOp,Instr.buildSlice,Sem.run_bind,run_underlying hU,Result.andThen_ok,hS,if_neg hsm];by_cases h0:n*size=0
 · simp only[h0,if_true] at ZH⊢
   rw[hm];simp only[Sem.run_bind,Sem.run_pure,Result.andThen_ok,ZH,Oe];rfl
 simp only[h0,if_false] at ZH⊢;rw[hm];simp only[Sem.run_bind,Sem.run_pure,Result.andThen_ok,hZ,ZH,Oe];rfl
end
end Go.Sl
namespace Go.Sl
open Go
section
variable{P:Program}{W0 w:World}{L:List aC}{ρ:Operand→Value}{d:Option Nat}{ty:TypeId}{pos:String}{af:Array Edge}{g:Option (Nat×Bool)}
theorem fy{size m:Nat}{y:Value}{ys:List Value}(C:Cells size y m ys (hp w)):(Builtin.firstCells size m y).run P w=.ok ys.toArray w:=by
 obtain⟨hl,ao,cap,rfl,h1,h2,h3,h4⟩:=C;by_cases hm:m=0
 · subst hm
   have:ys=[]:=List.eq_nil_of_length_eq_zero (by simpa using hl);subst this;cases ao<;>simp[Builtin.firstCells,loadCells,loadCellsFrom]
 obtain⟨b,o,rfl,r⟩:=h4 (by omega);exact run_firstCells_some (P:=P) w size m ⟨b,o,none⟩ m cap ys hl (fun j v hv=>by rw[Addr.jU,←zY];exact r j v hv)
theorem D6{size m:Nat}{y:Value}{ys:List Value}{h:Hp}(C:Cells size y m ys h):(Builtin.lenOf y).run P w=.ok m w:=by
 obtain⟨hl,ao,cap,rfl,_⟩:=C;simp[Builtin.lenOf]
theorem vt(k:Nat):free (0,0) k=true:=by
 unfold free;rw[show Nat.ble (k+1) (0,0).2=false from rfl,Bool.and_false];rfl
def Grown(size:Nat)(n:Nat)(xs:List Value)(W0:World)(L:List aC)(v:Value)(w':World):Prop:=
 ∃a c,v=.slice a n c∧On W0 (Own size (.slice a n c) n xs::L) w'
theorem yb{l:List Value}{o:Nat}{xs ys:List Value}{k m:Nat}(hk:(l.drop o).take k=xs)(hx:xs.length=k)(hl:o+k+ys.length≤l.length)(hm:m=k+ys.length):
   ((cE l (o+k) ys).drop o).take m=xs++ys:=by
 subst hm;unfold cE
 have e1:l.take (o+k)=l.take o++xs:=by
   rw[←hk,List.take_add]
 have Sr:(l.take o).length=o:=by rw[List.length_take];omega
 rw[e1];simp only[List.append_assoc]
 conv=>lhs;arg 2;arg 1;rw[←Sr]
 rw[List.drop_left];rw[←List.append_assoc];have:k+ys.length=(xs++ys).length:=by simp[hx]
 rw[this];exact List.take_left
theorem Own.mT{size n:Nat}{v:Value}{xs:List Value}(H:On W0 (Own size v n xs::L) w):xs.length=n*size∧
   ((n = 0 ∧ ∃ ao, v = .slice ao 0 0) ∨ ∃ gb off cap cur e fr, v = .slice (some ⟨gb, off, none⟩) n cap ∧ n ≤ cap ∧ cap ≤ maxLen ∧ off + cap * size ≤ cur.length ∧ (cur.drop off).take (n * size) = xs ∧
     (fr.1 = fr.2 ∨ cur.length ≤ fr.1) ∧ On W0 (aX gb cur e fr :: L) w) := by
 obtain⟨h1,h2,dd,s1,s2,⟨hl,a⟩,r⟩:=H.sat;refine⟨hl,a.imp id ?_⟩;rintro ⟨gb,off,cap,cur,e,fr,h3,h4,h5,h6,h7,h8,h9⟩;exact⟨gb,off,cap,cur,e,fr,h3,h4,h5,h6,h7,h8,H.os,H.output,H.tape,H.size,h1,h2,dd,s1,s2,h9,r⟩
theorem Own.nA{size n:Nat}{gb off cap:Nat}{cur xs:List Value}{e:Nat}{fr:Nat×Nat}(H:On W0 (aX gb cur e fr::L) w)(hx:xs.length=n*size)(h1:n≤cap)(h2:cap≤maxLen)(h3:off+cap*size≤cur.length)
   (h4:(cur.drop off).take (n*size)=xs) (h5:fr.1=fr.2∨cur.length≤fr.1):On W0 (Own size (.slice (some ⟨gb,off,none⟩) n cap) n xs::L) w:=
 H.head fun h hb=>⟨hx,.inr ⟨gb,off,cap,cur,e,fr,rfl,h1,h2,h3,h4,h5,hb⟩⟩
theorem Io{t e size n m bytes:Nat}{v y z:Value}{xs ys:List Value}{i:TypeInfo}{ty:TypeId}(H:On W0 (Own size v n xs::L) w)(C:Cells size y m ys (hp w))
   (hU:P.underlying t=some (.slice e)) (hI:P.info? e=some i) (CH:i.size=size) (S3:i.bytes=bytes) (hz:i.zero=some z) (S4:z.cells.size=size)
   (WJ:n+m≤maxLen) (hb:(n+m)*bytes≤140737488355328) (Of:∀u∈ys,u.oneCell'=true):
   ∃v' w',(Builtin.append_ #[t,t] ty #[v,y]).run P w=.ok v' w'∧Grown size (n+m) (xs++ys) W0 L v' w':=by
 subst CH;subst S3;have hf:=fy (P:=P) C;have S5:=D6 (P:=P) (w:=w) C;have pP:ys.length=m*i.size:=C.1;have hO:=H.get 0 rfl (FF _ _ _ _);have Cx:=hO.cells;have ry:xs.length=n*i.size:=hO.1;have aj3:((n+m:Nat):Int)≤9223372036854775807:=by simp only[maxLen] at WJ;omega
 have grow:∀(ao:Option Addr) (cap:Nat),v=.slice ao n cap→cap<n+m→∃v' w',(Builtin.append_ #[t,t] ty #[v,y]).run P w=.ok v' w'∧Grown i.size (n+m) (xs++ys) W0 L v' w':=by
   intro ao cap hv aj4;have l5:¬(n+m≤cap):=by omega
   have afb:¬(9223372036854775807<((n:Int)+(m:Int))):=by omega
   have afc:¬(281474976710656<Builtin.nextslicecap (n+m) cap*i.bytes):=by
     have:=growslice_fits (old:=cap) (by omega) hb;omega
   have Cd:Cells i.size y m ys (hp w.drew):=C;have Cxd:Cells i.size v n xs (hp w.drew):=Cx;have hfd:=fy (P:=P) Cd;have hfx:=fy (P:=P) Cxd;subst hv;refine⟨.slice (some ⟨w.heap.size,0,none⟩) (n+m) (grownCap w (n+m) cap e),w.drew.alloc (.cells (xs.toArray++ys.toArray++Builtin.zeroCells z.cells (grownCap w (n+m) cap e - (n+m))) e), ?_, ?_⟩
   · simp[Builtin.append_,run_underlying hU,sizeOf,typeInfo,zeroValue,hI,hz,S5,l5,afb,afc,Question.forced,hfd,hfx,newRow,grownCap]
     congr 2
     apply Array.ext';simp[List.append_assoc]
   refine⟨_,_,rfl, ?_⟩;have B1:=grownCap_ge w (n+m) cap e;have rz:grownCap w (n+m) cap e≤maxLen:=grownCap_le_maxLen w (n+m) cap e WJ;have hA:=(H.tail.drew).alloc (.cells (xs.toArray++ys.toArray++Builtin.zeroCells z.cells (grownCap w (n+m) cap e - (n+m))) e);refine hA.head fun h hh=>⟨by simp[ry,pP,Nat.add_mul],.inr ⟨w.heap.size,0,grownCap w (n+m) cap e,xs++ys++(Builtin.zeroCells z.cells (grownCap w (n+m) cap e - (n+m))).toList,e,(0,0),rfl,B1,rz, ?_, ?_, ?_, ?_⟩⟩
   · simp only[List.length_append,ry,pP,Array.length_toList,size_zeroCells,S4,←Nat.add_mul]
     rw[Nat.zero_add];apply Nat.le_of_eq;congr 1;omega
   · rw[List.drop_zero]
     have:(n+m)*i.size=(xs++ys).length:=by simp[ry,pP,Nat.add_mul]
     rw[this];exact List.take_left
   · exact .inl rfl
   have hh':h w.drew.heap.size=_:=hh;rw[show w.drew.heap.size=w.heap.size from rfl] at hh';rw[hh'];simp[obj]
 rcases(Own.mT H).2 with⟨rfl,ao,rfl⟩|⟨gb,off,cap,cur,e',fr,rfl,vg,rz,fe,rA,iT,Hb⟩
 · by_cases hm:m=0
   · subst hm
     have VC:ys=[]:=List.eq_nil_of_length_eq_zero (by simpa using pP);have vu:xs=[]:=List.eq_nil_of_length_eq_zero (by simpa using ry);subst VC;subst vu;refine⟨.slice ao 0 0,w, ?_,⟨ao,0,rfl,H⟩⟩;cases ao<;>simp[Builtin.append_,run_underlying hU,sizeOf,typeInfo,hI,S5,hf,storeCells]
   exact grow ao 0 rfl (by omega)
 by_cases nN:n+m≤cap
 · have vv:off+n*i.size+ys.length≤cur.length:=by
     rw[pP];have:(n+m)*i.size≤cap*i.size:=Nat.mul_le_mul_right _ nN;rw[Nat.add_mul] at this;omega
   have aix:off+n*i.size+ys.length≤off+cap*i.size:=by
     rw[pP];have:(n+m)*i.size≤cap*i.size:=Nat.mul_le_mul_right _ nN;rw[Nat.add_mul] at this;omega
   obtain⟨w',ki,Ip⟩:=Hb.storeCells (P:=P) 0 rfl (off+n*i.size) ys vv Of (fun k h1 h2=>oH iT (by omega));refine⟨.slice (some ⟨gb,off,none⟩) (n+m) cap,w', ?_,_,_,rfl, ?_⟩
   · simp[Builtin.append_,run_underlying hU,sizeOf,typeInfo,hI,S5,nN,hf,Addr.jU,ki]
   have e1:=yb (m:=(n+m)*i.size) rA ry vv (by rw[pP,Nat.add_mul]);exact Own.nA (e:=e') (fr:=fr) Ip (by simp[ry,pP,Nat.add_mul]) nN rz (by rw[cM vv];exact fe) e1 (by rw[cM vv];exact iT)
 exact grow (some ⟨gb,off,none⟩) cap rfl (by omega)
theorem z8{t e size n m bytes:Nat}{v y z:Value}{xs ys:List Value}{i:TypeInfo}{sx sy:Operand}(H:On W0 (Own size v n xs::L) w)(C:Cells size y m ys (hp w))(hs:ρ sx=v)(hy:ρ sy=y)
   (hU:P.underlying t=some (.slice e)) (hI:P.info? e=some i) (CH:i.size=size) (S3:i.bytes=bytes) (hz:i.zero=some z) (S4:z.cells.size=size)
   (WJ:n+m≤maxLen) (hb:(n+m)*bytes≤140737488355328) (Of:∀u∈ys,u.oneCell'=true):
   nr P ρ ⟨d,.call {callee:=.builtin .append,args:=#[sx,sy],argTypes:=#[t,t]},ty,pos,af,g⟩ w (Grown size (n+m) (xs++ys) W0 L):=by
 obtain⟨v',w',hr,hG⟩:=Io (ty:=ty) H C hU hI CH S3 hz S4 WJ hb Of;refine .inl ⟨v',w', ?_,hG⟩;simp[execOp,resolve,invoke,builtin,hs,hy,hr]
end
end Go.Sl
namespace Go.Sl
open Go
section
variable{P:Program}{W0 w:World}{L:List aC}{ρ:Operand→Value}{d:Option Nat}{ty:TypeId}{pos:String}{af:Array Edge}{g:Option (Nat×Bool)}
theorem ey{x:Operand}{t:TypeId}{p:Prop}[Decidable p](h:ρ x=.bool (decide p)):(execOp ρ ⟨d,.unOp .not t x,ty,pos,af,g⟩).run P w=.ok (.value (.bool (decide (¬p)))) w:=by
 simp[execOp,h,Op.unary]
theorem Iq{t fi:Nat}{x:Operand}{fs:Array Field}{f:Field}{cs:List Value}{v:Value}(hU:P.underlying t=some (.struct fs))(hf:fs[fi]? =some f)(hA:∀w,(isAgg f.type).run P w=.ok false w)
   (hx:ρ x=.agg cs.toArray) (hv:cs[f.offset]? =some v):(execOp ρ ⟨d,.field t x fi,ty,pos,af,g⟩).run P w=.ok (.value v) w:=by
 simp[execOp,Instr.field,run_underlying hU,hf,hx,asAgg,part,hA,hv]
theorem rW{t e size n c h:Nat}{kh:IntKind}{x y:Operand}{a:Option Addr}(hU:P.underlying t=some (.slice e))(hS:∀w,(sizeOf e).run P w=.ok size w)(hx:ρ x=.slice a n c)(hy:ρ y=.int kh h)(h1:h≤c):
   (execOp ρ ⟨d,.slice t x none (some y) none,ty,pos,af,g⟩).run P w=.ok (.value (.slice a h c)) w:=by
 have e0:(if c=0 then a else Option.map (fun x:Addr=>x.add 0) a)=a:=by split<;>cases a<;>simp[Addr.add]
 have c1:(0:Int)≤(h:Int)∧(h:Int)≤(c:Int):=⟨by omega,by omega⟩;simp[execOp,Instr.sliceAt,Instr.slice,run_underlying hU,hx,hy,Instr.sliceBounds,Instr.sliceBound,asIntOf,h1,hS,e0]
theorem iO{t e size n c h m:Nat}{kh km:IntKind}{x y z:Operand}{a:Option Addr}(hU:P.underlying t=some (.slice e))(hS:∀w,(sizeOf e).run P w=.ok size w)(hx:ρ x=.slice a n c)(hy:ρ y=.int kh h)(hz:ρ z=.int km m)(h1:h≤m)(h2:m≤c):
   (execOp ρ ⟨d,.slice t x none (some y) (some z),ty,pos,af,g⟩).run P w=.ok (.value (.slice a h m)) w:=by
 have e0:(if m=0 then a else Option.map (fun x:Addr=>x.add 0) a)=a:=by split<;>cases a<;>simp[Addr.add]
 simp[execOp,Instr.sliceAt,Instr.slice,run_underlying hU,hx,hy,hz,Instr.sliceBounds,Instr.sliceBound,asIntOf,h1,h2,hS,e0]
theorem tj{t e size n c l h:Nat}{kl kh:IntKind}{x y z:Operand}{a:Option Addr}(hU:P.underlying t=some (.slice e))(hS:∀w,(sizeOf e).run P w=.ok size w)(hx:ρ x=.slice a n c)(hy:ρ y=.int kl l)(hz:ρ z=.int kh h)(h1:l≤h)(h2:h≤c):
   (execOp ρ ⟨d,.slice t x (some y) (some z) none,ty,pos,af,g⟩).run P w=.ok (.value (sliced a l h c size)) w:=by
 simp[execOp,Instr.sliceAt,Instr.slice,run_underlying hU,hx,hy,hz,Instr.sliceBounds,Instr.sliceBound,asIntOf,h1,h2,hS,sliced]
theorem Aa{t e size n c l:Nat}{kl:IntKind}{x y:Operand}{a:Option Addr}(hU:P.underlying t=some (.slice e))(hS:∀w,(sizeOf e).run P w=.ok size w)(hx:ρ x=.slice a n c)(hy:ρ y=.int kl l)(h1:l≤n):
   (execOp ρ ⟨d,.slice t x (some y) none none,ty,pos,af,g⟩).run P w=.ok (.value (sliced a l n c size)) w:=by
 simp[execOp,Instr.sliceAt,Instr.slice,run_underlying hU,hx,hy,Instr.sliceBounds,Instr.sliceBound,asIntOf,h1,hS,sliced]
theorem Ab{t e size n c l h m:Nat}{kl kh km:IntKind}{x y z u:Operand}{a:Option Addr}(hU:P.underlying t=some (.slice e))(hS:∀w,(sizeOf e).run P w=.ok size w)(hx:ρ x=.slice a n c)(hy:ρ y=.int kl l)(hz:ρ z=.int kh h)(hm:ρ u=.int km m)(h1:l≤h)(h2:h≤m)(h3:m≤c):
   (execOp ρ ⟨d,.slice t x (some y) (some z) (some u),ty,pos,af,g⟩).run P w=.ok (.value (sliced a l h m size)) w:=by
 simp[execOp,Instr.sliceAt,Instr.slice,run_underlying hU,hx,hy,hz,hm,Instr.sliceBounds,Instr.sliceBound,asIntOf,h1,h2,h3,hS,sliced]
theorem Cells.cut{size n:Nat}{a:Option Addr}{c l h m:Nat}{xs:List Value}{hh:Hp}(C:Cells size (.slice a n c) n xs hh)(h1:l≤h)(h2:h≤n)(h3:h≤m)(h4:m≤c):
   Cells size (sliced a l h m size) (h - l) ((xs.drop (l*size)).take ((h - l)*size)) hh:=by
 obtain⟨hl,ao,cap,hv,FK,H6,ZI,WK⟩:=C;simp only[Value.slice.injEq] at hv;obtain⟨rfl,_,rfl⟩:=hv;refine⟨?_,(if m=l then a else a.map (·.add (l*size))),m - l,rfl,by omega,by omega, ?_, ?_⟩
 · rw[List.length_take,List.length_drop,hl]
   have:(h - l)*size≤n*size - l*size:=by rw[←Nat.sub_mul];exact Nat.mul_le_mul_right _ (by omega)
   omega
 · intro hn
   split at hn
   · omega
   cases a with
   |none=>have:=ZI rfl;omega
   |some a=>cases hn
 intro hp;obtain⟨b,o,rfl,r⟩:=WK (by omega);have l5:¬m=l:=by omega
 refine⟨b,o+l*size, ?_, ?_⟩
 · simp[l5,Addr.jU]
 intro j u hj;rw[List.getElem?_take] at hj;split at hj
 · rw[List.getElem?_drop] at hj
   have:=r _ _ hj;rw[←Nat.add_assoc] at this;exact this
 cases hj
theorem bf.rc{N:Nat}{env:Env}{fn:Func}{R:Value→World→Prop}{t rt b n:Nat}{vs:List Value}(h:fn.results=#[.cell t rt])(hA:∀w,(isAgg rt).run P w=.ok true w)(hS:∀w,(sizeOf rt).run P w=.ok n w)
   (he:env t=.pointer (some ⟨b,0,none⟩)) (hl:vs.length=n) (hc:∀j u,vs[j]? =some u→w.cell? ⟨b,0+j,none⟩=some u) (hR:R (.agg vs.toArray) w):
   bf P fn R .ret env w:=by
 refine⟨.agg vs.toArray,fun tmps hg=> ?_,hR⟩;have hp:tmps.getD t undef=.pointer (some ⟨b,0,none⟩):=by rw[hg,he]
 have WM:tmps[t]?.getD undef=.pointer (some ⟨b,0,none⟩):=by simpa using hp
 have:=run_loadCells_list (P:=P) w ⟨b,0,none⟩ vs (fun j v hv=>by rw[Addr.jU];exact hc j v hv);rw[hl] at this;simp[results,h,WM,asAddr,loadVar,hA,hS,this]
theorem bf.rct{N:Nat}{env:Env}{fn:Func}{R:Value→World→Prop}{t u rt b n:Nat}{vs:List Value}{v2:Value}(h:fn.results=#[.cell t rt,.tmp u])(hA:∀w,(isAgg rt).run P w=.ok true w)(hS:∀w,(sizeOf rt).run P w=.ok n w)
   (he:env t=.pointer (some ⟨b,0,none⟩)) (hl:vs.length=n) (hc:∀j u,vs[j]? =some u→w.cell? ⟨b,0+j,none⟩=some u) (h2:env u=v2) (hR:R (.tuple #[.agg vs.toArray,v2]) w):
   bf P fn R .ret env w:=by
 refine⟨.tuple #[.agg vs.toArray,v2],fun tmps hg=> ?_,hR⟩;have hp:tmps.getD t undef=.pointer (some ⟨b,0,none⟩):=by rw[hg,he]
 have WM:tmps[t]?.getD undef=.pointer (some ⟨b,0,none⟩):=by simpa using hp
 have:=run_loadCells_list (P:=P) w ⟨b,0,none⟩ vs (fun j v hv=>by rw[Addr.jU];exact hc j v hv);rw[hl] at this;rw[results_cell_tmp h,hp];simp only[asAddr,Sem.run_pure,Result.andThen_ok];simp[loadVar,hA,hS,this,←h2,←hg u]
theorem bf.uA{W0:World}{L:List aC}{env:Env}{fn:Func}{R:Value→World→Prop}{t rt b n:Nat}{l vs:List Value}{e:Nat}{fr:Nat×Nat}(H:On W0 L w)(h:fn.results=#[.cell t rt])(hA:∀w,(isAgg rt).run P w=.ok true w)(hS:∀w,(sizeOf rt).run P w=.ok n w)
   (he:env t=.pointer (some ⟨b,0,none⟩)) [i:dQ L b l e fr] (hv:l=vs) (hl:vs.length=n) (hR:R (.agg vs.toArray) w):bf P fn R .ret env w:=
 bf.rc (N:=0) h hA hS he hl (fun j u hj=>by rw[Nat.zero_add];exact H.aS (i:=i) (by rw[hv];exact hj)) hR
theorem bf.rX{W0:World}{L:List aC}{env:Env}{fn:Func}{R:Value→World→Prop}{t u rt b n:Nat}{l vs:List Value}{v2:Value}{e:Nat}{fr:Nat×Nat}(H:On W0 L w)(h:fn.results=#[.cell t rt,.tmp u])(hA:∀w,(isAgg rt).run P w=.ok true w)(hS:∀w,(sizeOf rt).run P w=.ok n w)
   (he:env t=.pointer (some ⟨b,0,none⟩)) [i:dQ L b l e fr] (hv:l=vs) (hl:vs.length=n) (h2:env u=v2) (hR:R (.tuple #[.agg vs.toArray,v2]) w):bf P fn R .ret env w:=
 bf.rct (N:=0) h hA hS he hl (fun j u hj=>by rw[Nat.zero_add];exact H.aS (i:=i) (by rw[hv];exact hj)) h2 hR
end
section
variable{P:Program}{N:Nat}{ops:Array Oper}{K:Env→World→Prop}{env:Env}{w:World}{rest:List Oper}{o:Oper}
theorem WL.dec{p:Prop}[Decidable p](hr:(execOp (cN env) o).run P w=.ok (.value (.bool (decide p))) w)(hw:Region.wanted o (aU ops env)=true)(hd:iN N o.dst=true)
   (kT:p→WL P N ops K rest (cP env o.dst (.bool true)) w) (kF:¬p→WL P N ops K rest (cP env o.dst (.bool false)) w):WL P N ops K (o::rest) env w:=by
 by_cases h:p
 · exact WL.val (by rw[hr];simp[h]) hw hd (kT h)
 exact WL.val (by rw[hr];simp[h]) hw hd (kF h)
theorem WL.Kn{b:Bool}(hr:(execOp (cN env) o).run P w=.ok (.value (.bool b)) w)(hw:Region.wanted o (aU ops env)=true)(hd:iN N o.dst=true)
   (kT:b=true→WL P N ops K rest (cP env o.dst (.bool true)) w) (kF:b=false→WL P N ops K rest (cP env o.dst (.bool false)) w):WL P N ops K (o::rest) env w:=by
 cases b
 · exact WL.val hr hw hd (kF rfl)
 exact WL.val hr hw hd (kT rfl)
variable{T:mh}{fuel:Nat}{aM:Array Bool}
theorem WT.dec(i:Nat){oi:Oper}{p:Prop}[Decidable p](hi:ops[i]? =some oi)(hb:kg ops aM i=true)
   (hv:∀w',(execOp (cN env) oi).run P w'=.ok (.value (.bool (decide p))) w') (hw:Region.wanted oi (aU ops env)=true) (hd:iN N oi.dst=true)
   (kT:p→WT P N ops K fuel T (aM.setIfInBounds i true) (cP env oi.dst (.bool true)) w) (kF:¬p→WT P N ops K fuel T (aM.setIfInBounds i true) (cP env oi.dst (.bool false)) w):WT P N ops K (fuel+1) T aM env w:=by
 by_cases h:p
 · exact WT.pure i hi hb (fun w'=>by rw[hv w'];simp[h]) hw hd (kT h)
 exact WT.pure i hi hb (fun w'=>by rw[hv w'];simp[h]) hw hd (kF h)
end
end Go.Sl
namespace Go.Sl
open Go
abbrev tY(c:UInt8):Value:=.int .u8 c.toNat
abbrev aL(bs:List UInt8):List Value:=bs.map tY
theorem cR{bs:List UInt8}:∀u∈aL bs,u.oneCell'=true:=by
 intro u hu;obtain⟨c,_,rfl⟩:=List.mem_map.1 hu;rfl
abbrev Bytes(v:Value)(bs:List UInt8):aC:=Cells 1 v bs.length (aL bs)
abbrev bC(v:Value)(bs:List UInt8):aC:=Own 1 v bs.length (aL bs)
theorem qL(v:Value)(bs:List UInt8):BY (Bytes v bs):=jV _ _ _ _
theorem aB.b{L:List aC}{B:aC}{v:Value}{bs:List UInt8}(g:aB L (Bytes v bs)):aB (B::L) (Bytes v bs):=g.cons (qL _ _)
section
variable{P:Program}{W0 w:World}{L:List aC}{A B:aC}
theorem On.new(H:On W0 L w)(a:∀h,A h):On W0 (A::L) w:=H.imp fun h s=>⟨fun _=>none,h,(fun _ _ _ e _=>by cases e),(fun _ _ e=>by cases e),Sub.refl _,a _,s⟩
theorem On.bB(H:On W0 L w)(size:Nat)(a:Option Addr):On W0 (Own size (.slice a 0 0) 0 []::L) w:=H.new fun _=>⟨by simp,.inl ⟨rfl,a,rfl⟩⟩
theorem On.reads{A:aC}(H:On W0 L w)(g:aB L A):A (hp w):=g _ H.sat
theorem On.merge{C:aC}(H:On W0 (A::B::L) w)(i:∀h k l,Sub h l→Sub k l→A h→B k→C l):On W0 (C::L) w:=H.imp fun h s=>by
 obtain⟨h1,h2,d,s1,s2,a,k1,k2,d',t1,t2,b,r⟩:=s;refine⟨union h1 k1,k2,tf (d.mono (Sub.refl _) t2) d',td s1 (t1.trans s2),t2.trans s2,i h1 k1 _ (union_left _ _) (union_right (d.mono (Sub.refl _) t1)) a b,r⟩
def aY(ps:List (Value×List UInt8)):aC:=fun h=>∀p∈ps,Bytes p.1 p.2 h
theorem On.Ac(H:On W0 L w):On W0 (aY []::L) w:=H.new fun _ _ h=>by cases h
theorem On.mU{v:Value}{bs:List UInt8}{ps:List (Value×List UInt8)}(H:On W0 (bC v bs::aY ps::L) w):On W0 (aY ((v,bs)::ps)::L) w:=
 H.merge fun h k l s1 s2 a b p hp=>by
   rcases List.mem_cons.1 hp with rfl|hp
   · exact qL _ _ _ _ s1 a.cells
   exact qL _ _ _ _ s2 (b p hp)
theorem aB.aa{ps:List (Value×List UInt8)}{v:Value}{bs:List UInt8}(h:(v,bs)∈ps):aB (aY ps::L) (Bytes v bs):=aB.head (qL _ _) fun _ H=>H _ h
theorem Cells.form{size n:Nat}{v:Value}{xs:List Value}{h:Hp}(C:Cells size v n xs h):∃a c,v=.slice a n c∧n≤c∧c≤maxLen∧(a=none→c=0):=by
 obtain⟨_,ao,cap,hv,h1,h2,h3,_⟩:=C;exact⟨ao,cap,hv,h1,h2,h3⟩
theorem Own.form{size n:Nat}{v:Value}{xs:List Value}(H:On W0 (Own size v n xs::L) w):∃a c,v=.slice a n c∧n≤c∧c≤maxLen∧(a=none→c=0):=by
 obtain⟨h1,s,a⟩:=H.sat.fact;exact a.cells.form
theorem Own.clip{size n c:Nat}{a:Option Addr}{xs:List Value}(H:On W0 (Own size (.slice a n c) n xs::L) w):On W0 (Own size (.slice a n n) n xs::L) w:=H.head fun h ⟨hl,o⟩=>by
 refine⟨hl, ?_⟩;rcases o with⟨rfl,ao,hv⟩|⟨g,off,cap,cur,e,fr,hv,h1,h2,h3,h4,h5,h6⟩
 · exact .inl ⟨rfl,a,rfl⟩
 simp only[Value.slice.injEq] at hv;obtain⟨rfl,_,rfl⟩:=hv;have:n*size≤c*size:=Nat.mul_le_mul_right _ h1;exact .inr ⟨g,off,n,cur,e,fr,rfl,Nat.le_refl _,by omega,by omega,h4,h5,h6⟩
theorem aG:maxLen=9223372036854775807:=rfl
end
end Go.Sl
namespace Go.Sl
open Go
@[reducible] def WN(Q:Exit→Env→World→Prop):Exit→Env→World→Prop
 | .goto _,_,_=>False
 |e,env,w=>Q e env w
theorem W.scope{P:Program}{N:Nat}{env:Env}{w:World}{Q:Exit→Env→World→Prop}{c:Code}(h:W P N c (WN Q) env w):W P N (.scope c) Q env w:=fun a r=>by
 refine wp_scope_straight (wp_mono (h a r) ?_);rintro e a' w' ⟨eZ,r',q⟩;cases e with
 |goto l=>exact q.elim
 |_=>exact⟨eZ,r',q⟩
section
variable{P:Program}{W0 w:World}{L:List aC}{ρ:Operand→Value}{d:Option Nat}{ty:TypeId}{pos:String}{af:Array Edge}{g:Option (Nat×Bool)}
theorem Own.addr{size n c:Nat}{a:Option Addr}{xs:List Value}(H:On W0 (Own size (.slice a n c) n xs::L) w)(hn:0<n):∃b o,a=some ⟨b,o,none⟩:=by
 rcases(Own.mT H).2 with⟨h0,_⟩|⟨gb,off,cap,cur,e,fr,hv,_⟩
 · omega
 simp only[Value.slice.injEq] at hv;exact⟨gb,off,hv.1⟩
theorem Own.front{size n c k:Nat}{a:Option Addr}{xs:List Value}(H:On W0 (Own size (.slice a n c) n xs::L) w)(hk:k≤n):On W0 (Own size (.slice a k c) k (xs.take (k*size))::L) w:=H.head fun h ⟨hl,o⟩=>by
 have SU:k*size≤n*size:=Nat.mul_le_mul_right _ hk;refine⟨by rw[List.length_take];omega, ?_⟩;rcases o with⟨rfl,ao,hv⟩|⟨g,off,cap,cur,e,fr,hv,h1,h2,h3,h4,h5,h6⟩
 · simp only[Value.slice.injEq] at hv
   obtain⟨rfl,_,rfl⟩:=hv;have:k=0:=by omega
   subst this;exact .inl ⟨rfl,_,rfl⟩
 simp only[Value.slice.injEq] at hv;obtain⟨rfl,_,rfl⟩:=hv;refine .inr ⟨g,off,c,cur,e,fr,rfl,by omega,h2,h3, ?_,h5,h6⟩;rw[←h4,List.take_take,Nat.min_eq_left SU]
theorem rY{t e size n m cap:Nat}{y:Value}{a:Option Addr}{xs ys:List Value}{sx sy:Operand}(H:On W0 (Own size (.slice a n cap) n xs::L) w)(C:Cells size y m ys (hp w))(hs:ρ sx=.slice a n cap)(hy:ρ sy=y)
   (hU:P.underlying t=some (.slice e)) (hS:∀w,(sizeOf e).run P w=.ok size w) (nN:n+m≤cap) (Of:∀u∈ys,u.oneCell'=true):
   nr P ρ ⟨d,.call {callee:=.builtin .append,args:=#[sx,sy],argTypes:=#[t,t]},ty,pos,af,g⟩ w (fun v w'=>v=.slice a (n+m) cap∧On W0 (Own size (.slice a (n+m) cap) (n+m) (xs++ys)::L) w'):=by
 have hf:=fy (P:=P) C;have S5:=D6 (P:=P) (w:=w) C;have pP:ys.length=m*size:=C.1;obtain⟨ry,hO⟩:=Own.mT H;rcases hO with⟨rfl,ao,hv⟩|⟨gb,off,LC,cur,e',fr,hv,vg,rz,fe,rA,iT,Hb⟩
 · simp only[Value.slice.injEq] at hv
   obtain⟨rfl,_,rfl⟩:=hv;have hm:m=0:=by omega
   subst hm;have VC:ys=[]:=List.eq_nil_of_length_eq_zero (by simpa using pP);have vu:xs=[]:=List.eq_nil_of_length_eq_zero (by simpa using ry);subst VC;subst vu;refine .inl ⟨.slice a 0 0,w, ?_,rfl,H⟩;cases a<;>simp[execOp,resolve,invoke,builtin,hs,hy,Builtin.append_,run_underlying hU,hS,S5,hf,storeCells]
 simp only[Value.slice.injEq] at hv;obtain⟨rfl,_,rfl⟩:=hv;have hle:(n+m)*size≤cap*size:=Nat.mul_le_mul_right _ nN;rw[Nat.add_mul] at hle;have vv:off+n*size+ys.length≤cur.length:=by rw[pP];omega
 obtain⟨w',ki,Ip⟩:=Hb.storeCells (P:=P) 0 rfl (off+n*size) ys vv Of (fun k h1 h2=>oH iT (by omega));refine .inl ⟨.slice (some ⟨gb,off,none⟩) (n+m) cap,w', ?_,rfl, ?_⟩
 · simp[execOp,resolve,invoke,builtin,hs,hy,Builtin.append_,run_underlying hU,hS,S5,nN,hf,Addr.jU,ki]
 have e1:=yb (m:=(n+m)*size) rA ry vv (by rw[pP,Nat.add_mul]);exact Own.nA (e:=e') (fr:=fr) Ip (by simp[ry,pP,Nat.add_mul]) nN rz (by rw[cM vv];exact fe) e1 (by rw[cM vv];exact iT)
theorem uB{l:List Value}{o k:Nat}{ys:List Value}{m:Nat}(hm:o+m≤k)(hk:k≤l.length):((cE l k ys).drop o).take m=(l.drop o).take m:=by
 apply List.ext_getElem?;intro j;simp only[List.getElem?_take];by_cases hj:j<m
 · rw[if_pos hj,if_pos hj,List.getElem?_drop,List.getElem?_drop]
   unfold cE;rw[List.append_assoc,List.getElem?_append_left (by rw[List.length_take];omega),List.getElem?_take,if_pos (by omega)]
 rw[if_neg hj,if_neg hj]
theorem rB{t e size n c m:Nat}{a:Option Addr}{xs:List Value}{z:Value}{sx:Operand}(H:On W0 (Own size (.slice a n c) n xs::L) w)(h1:n≤m)(h2:m≤c)(hs:ρ sx=sliced a n m c size)
   (hU:P.underlying t=some (.slice e)) (hZ:∀w,(zeroValue e).run P w=.ok z w) (hz:z.cells.size=size) (hz1:∀v∈z.cells.toList,v.oneCell'=true):
   nr P ρ ⟨d,.call {callee:=.builtin .clear,args:=#[sx],argTypes:=#[t]},ty,pos,af,g⟩ w (fun v w'=>On W0 (Own size (.slice a n c) n xs::L) w'):=by
 obtain⟨ry,hO⟩:=Own.mT H;rcases hO with⟨rfl,ao,hv⟩|⟨gb,off,LC,cur,e',fr,hv,vg,rz,fe,rA,iT,Hb⟩
 · simp only[Value.slice.injEq] at hv
   obtain⟨rfl,_,rfl⟩:=hv;have hm:m=0:=by omega
   subst hm;refine .inl ⟨.tuple #[],w, ?_,H⟩;cases a<;>simp[execOp,resolve,invoke,builtin,hs,sliced,Builtin.clear_,run_underlying hU]
 simp only[Value.slice.injEq] at hv;obtain⟨rfl,_,rfl⟩:=hv;by_cases hnm:m=n
 · subst hnm
   refine .inl ⟨.tuple #[],w, ?_,H⟩;by_cases afe:c=m<;>simp[execOp,resolve,invoke,builtin,hs,sliced,Builtin.clear_,run_underlying hU,afe]
 have S6:¬c=n:=by omega
 have hlen:(Builtin.zeroCells z.cells (m - n)).toList.length=(m - n)*size:=by simp[size_zeroCells,hz]
 have hms:n*size+(m - n)*size=m*size:=by rw[←Nat.add_mul];congr 1;omega
 have hmc:m*size≤c*size:=Nat.mul_le_mul_right _ h2
 have aff:∀v∈(Builtin.zeroCells z.cells (m - n)).toList,v.oneCell'=true:=by
   intro v hv;unfold Builtin.zeroCells at hv;simp only[Array.toList_map,List.mem_map] at hv;obtain⟨i,hi,rfl⟩:=hv;simp at hi;by_cases S4:z.cells.size=0
   · rw[S4] at hi;simp at hi
   have dW:i % z.cells.size<z.cells.size:=Nat.mod_lt _ (by omega);rw[getElem!_pos z.cells _ dW];exact hz1 _ (by simp)
 obtain⟨w',ki,Ip⟩:=Hb.storeCells (P:=P) 0 rfl (off+n*size) (Builtin.zeroCells z.cells (m - n)).toList (by rw[hlen];omega) aff (fun k k1 k2=>oH iT (by rw[hlen] at k2;omega));refine .inl ⟨.tuple #[],w', ?_, ?_⟩
 · obtain⟨q,hq⟩:∃q,m - n=q+1:=⟨m - n - 1,by omega⟩
   rw[hq] at ki;simp[execOp,resolve,invoke,builtin,hs,sliced,S6,Builtin.clear_,run_underlying hU,Addr.jU,hq,hZ,ki]
 refine Own.nA (e:=e') (fr:=fr) Ip ry vg rz (by rw[cM (by rw[hlen];omega)];exact fe) ?_ (by rw[cM (by rw[hlen];omega)];exact iT);rw[uB (Nat.le_refl _) (by omega)];exact rA
theorem Cells.elem{size n c b o i:Nat}{xs vs:List Value}(C:Cells size (.slice (some ⟨b,o,none⟩) n c) n xs (hp w))(hi:i<n)(hv:(xs.drop (i*size)).take size=vs):∀j u,vs[j]? =some u→w.cell? ⟨b,o+i*size+j,none⟩=some u:=by
 intro j u hj;subst hv;rw[List.getElem?_take] at hj;split at hj
 · rw[List.getElem?_drop] at hj
   rw[Nat.add_assoc];exact C.cell rfl (by omega) hj
 cases hj
theorem aF{α:Type}(f:α→List Value)(size:Nat)(hf:∀x,(f x).length=size):∀(l:List α) (i:Nat) (x:α),l[i]? =some x→((l.flatMap f).drop (i*size)).take size=f x:=by
 intro l
 induction l with
 |nil=>intro i x h;simp at h
 | cons y l ih=>
   intro i x h;rw[List.flatMap_cons];cases i with
   |zero=>simp at h;subst h;rw[Nat.zero_mul,List.drop_zero,←hf y];exact List.take_left
   | succ i=>
     simp at h;rw[Nat.succ_mul,Nat.add_comm,←List.drop_drop];have:((f y++l.flatMap f).drop size)=l.flatMap f:=by rw[←hf y];exact List.drop_left
     rw[this];exact ih i x h
theorem qM{α:Type}(f:α→List Value)(size:Nat)(hf:∀x,(f x).length=size):∀(l:List α) (i:Nat),(l.flatMap f).take (i*size)=(l.take i).flatMap f:=by
 intro l
 induction l with
 |nil=>intro i;simp
 | cons y l ih=>
   intro i;cases i with
   |zero=>simp
   | succ i=>
     rw[List.take_succ_cons,List.flatMap_cons,List.flatMap_cons,Nat.succ_mul,Nat.add_comm,List.take_add,←ih];have e1:(f y++l.flatMap f).take size=f y:=by rw[←hf y];exact List.take_left
     have e2:(f y++l.flatMap f).drop size=l.flatMap f:=by rw[←hf y];exact List.drop_left
     rw[e1,e2]
theorem rC{α:Type}(f:α→List Value)(size:Nat)(hf:∀x,(f x).length=size):∀(l:List α) (i:Nat),(l.flatMap f).drop (i*size)=(l.drop i).flatMap f:=by
 intro l
 induction l with
 |nil=>intro i;simp
 | cons y l ih=>
   intro i;cases i with
   |zero=>simp
   | succ i=>
     rw[List.drop_succ_cons,List.flatMap_cons,Nat.succ_mul,Nat.add_comm,←List.drop_drop];have e2:(f y++l.flatMap f).drop size=l.flatMap f:=by rw[←hf y];exact List.drop_left
     rw[e2];exact ih i
theorem Own.CL{b e n size:Nat}{l:List Value}(H:On W0 (aX b l e::L) w)(hl:l.length=n*size)(hm:n≤maxLen):On W0 (Own size (.slice (some ⟨b,0,none⟩) n n) n l::L) w:=
 Own.nA H hl (Nat.le_refl _) hm (by omega) (by rw[List.drop_zero,List.take_of_length_le (by omega)]) (.inl rfl)
def Ex{ι:Type}(G:ι→aC):aC:=fun h=>∃x,G x h
theorem On.ex{ι:Type}{G:ι→aC}(H:On W0 (Ex G::L) w):∃x,On W0 (G x::L) w:=H.Ob
theorem On.rT{ι:Type}{G:ι→aC}(x:ι)(H:On W0 (G x::L) w):On W0 (Ex G::L) w:=H.head fun _ h=>⟨x,h⟩
def Pack(p:Prop)(M:List aC):aC:=fun h=>p∧Sat M h
theorem On.unpack{p:Prop}{M:List aC}(H:On W0 (Pack p M::L) w):p∧On W0 (M++L) w:=by
 obtain⟨h1,h2,d,s1,s2,⟨hp,a⟩,r⟩:=H.sat;exact⟨hp,H.os,H.output,H.tape,H.size,Sat.FC d s1 s2 a r⟩
theorem On.pack{p:Prop}{M:List aC}(hp:p)(H:On W0 (M++L) w):On W0 (Pack p M::L) w:=by
 obtain⟨h1,h2,d,s1,s2,a,r⟩:=Sat.append H.sat;exact⟨H.os,H.output,H.tape,H.size,h1,h2,d,s1,s2,⟨hp,a⟩,r⟩
end
end Go.Sl
namespace Go.Sl
open Go
class Ad(L:List aC)(A:aC)(L':outParam (List aC)):Prop where
 out:∀h,Sat L h→Sat (A::L') h
instance Ad.here{A:aC}{L:List aC}:Ad (A::L) A L:=⟨fun _ H=>H⟩
instance(priority:=low) Ad.there {A B:aC} {L L':List aC} [p:Ad L A L']:Ad (B::L) A (B::L'):=⟨fun h H=>(H.aI p.out).swap⟩
class To(L T:List aC):Prop where
 out:∀h,Sat L h→Sat T h
instance(priority:=high) To.refl {L:List aC}:To L L:=⟨fun _ H=>H⟩
instance(priority:=high) To.nil {L:List aC}:To L []:=⟨fun _ _=>trivial⟩
instance To.cons{L L' T:List aC}{A:aC}[p:Ad L A L'][t:To L' T]:To L (A::T):=⟨fun h H=>(p.out h H).aI t.out⟩
instance(priority:=low) To.drop {A:aC} {L T:List aC} [t:To L T]:To (A::L) T:=⟨fun h H=>t.out h H.tail⟩
class rZ(L:List aC)(v:Value)(size:outParam Nat)(n:outParam Nat)(xs:outParam (List Value))(L':outParam (List aC)):Prop where
 out:∀h,Sat L h→Sat (Own size v n xs::L') h
instance rZ.here{L:List aC}{v:Value}{size n:Nat}{xs:List Value}:rZ (Own size v n xs::L) v size n xs L:=⟨fun _ H=>H⟩
instance(priority:=low) rZ.there {B:aC} {L L':List aC} {v:Value} {size n:Nat} {xs:List Value} [p:rZ L v size n xs L']:rZ (B::L) v size n xs (B::L'):=⟨fun h H=>(H.aI p.out).swap⟩
theorem Own.bounds{W0 w:World}{L:List aC}{size n c:Nat}{a:Option Addr}{xs:List Value}(H:On W0 (Own size (.slice a n c) n xs::L) w):n≤c∧c≤maxLen:=by
 obtain⟨_,_,hv,h1,h2,_⟩:=Own.form H;simp only[Value.slice.injEq] at hv;obtain⟨_,_,rfl⟩:=hv;exact⟨h1,h2⟩
theorem Cells.bounds{size n c:Nat}{a:Option Addr}{xs:List Value}{h:Hp}(C:Cells size (.slice a n c) n xs h):n≤c∧c≤maxLen:=by
 obtain⟨_,_,hv,h1,h2,_⟩:=C.form;simp only[Value.slice.injEq] at hv;obtain⟨_,_,rfl⟩:=hv;exact⟨h1,h2⟩
theorem Cells.addr{size n c:Nat}{a:Option Addr}{xs:List Value}{h:Hp}(C:Cells size (.slice a n c) n xs h)(hn:0<n):∃b o,a=some ⟨b,o,none⟩:=by
 obtain⟨_,ao,cap,hv,_,_,_,h4⟩:=C;obtain⟨b,o,rfl,_⟩:=h4 hn;simp only[Value.slice.injEq] at hv;exact⟨b,o,hv.1⟩
theorem Cells.front{size n k c:Nat}{a:Option Addr}{xs:List Value}{h:Hp}(C:Cells size (.slice a n c) n xs h)(hk:k≤n):Cells size (.slice a k c) k (xs.take (k*size)) h:=by
 obtain⟨hl,ao,cap,hv,h1,h2,h3,h4⟩:=C;simp only[Value.slice.injEq] at hv;obtain⟨rfl,_,rfl⟩:=hv;have SU:k*size≤n*size:=Nat.mul_le_mul_right _ hk;refine⟨by rw[List.length_take];omega,a,c,rfl,by omega,h2,h3,fun hp=> ?_⟩;obtain⟨b,o,rfl,r⟩:=h4 (by omega);refine⟨b,o,rfl,fun j u hj=> ?_⟩;rw[List.getElem?_take] at hj;split at hj
 · exact r j u hj
 cases hj
section
variable{P:Program}{W0 w:World}{L L':List aC}{ρ:Operand→Value}{d:Option Nat}{ty:TypeId}{pos:String}{af:Array Edge}{g:Option (Nat×Bool)}
theorem On.aj(H:On W0 L w)(A:aC)[p:Ad L A L']:On W0 (A::L') w:=H.imp p.out
theorem On.to{T:List aC}(H:On W0 L w)[t:To L T]:On W0 T w:=H.imp t.out
theorem On.own(H:On W0 L w)(v:Value){size n:Nat}{xs:List Value}[p:rZ L v size n xs L']:On W0 (Own size v n xs::L') w:=H.imp p.out
theorem On.aR(H:On W0 L w){v:Value}{size n:Nat}{xs:List Value}[p:rZ L v size n xs L']:Cells size v n xs (hp w):=(H.imp p.out).cells 0 rfl
theorem On.aO{A:aC}{T:List aC}(H:On W0 L w)[t:To L T](g:aB T A):A (hp w):=g _ (t.out _ H.sat)
theorem aB.to{A:aC}{T:List aC}[t:To L T](g:aB T A):aB L A:=fun h H=>g h (t.out h H)
theorem bU{t e size n m bytes c1 c2:Nat}{a1 a2:Option Addr}{z:Value}{xs ys:List Value}{i:TypeInfo}{sx sy:Operand}(H:On W0 L w)(hs:ρ sx=.slice a1 n c1)(hy:ρ sy=.slice a2 m c2)[p:rZ L (.slice a1 n c1) size n xs L'](C:Cells size (.slice a2 m c2) m ys (hp w))
   (hU:P.underlying t=some (.slice e)) (hI:P.info? e=some i) (CH:i.size=size) (S3:i.bytes=bytes) (hz:i.zero=some z) (S4:z.cells.size=size)
   (WJ:n+m≤maxLen) (hb:(n+m)*bytes≤140737488355328) (Of:∀u∈ys,u.oneCell'=true):
   nr P ρ ⟨d,.call {callee:=.builtin .append,args:=#[sx,sy],argTypes:=#[t,t]},ty,pos,af,g⟩ w (Grown size (n+m) (xs++ys) W0 L'):=
 z8 (H.imp p.out) C hs hy hU hI CH S3 hz S4 WJ hb Of
theorem mj{t e size m bytes c1 c2:Nat}{a1 a2:Option Addr}{z:Value}{xs ys:List Value}{i:TypeInfo}{sx sy:Operand}(H:On W0 L w)(hs:ρ sx=.slice a1 0 c1)(hy:ρ sy=.slice a2 m c2)[p:rZ L (.slice a1 0 c1) size 0 xs L'](C:Cells size (.slice a2 m c2) m ys (hp w))
   (hU:P.underlying t=some (.slice e)) (hI:P.info? e=some i) (CH:i.size=size) (S3:i.bytes=bytes) (hz:i.zero=some z) (S4:z.cells.size=size)
   (WJ:m≤maxLen) (hb:m*bytes≤140737488355328) (Of:∀u∈ys,u.oneCell'=true):
   nr P ρ ⟨d,.call {callee:=.builtin .append,args:=#[sx,sy],argTypes:=#[t,t]},ty,pos,af,g⟩ w (Grown size m ys W0 L'):=by
 have H':=H.imp p.out;have hx:xs=[]:=List.eq_nil_of_length_eq_zero (by simpa using(Own.mT H').1);have:=z8 (P:=P) (ρ:=ρ) (d:=d) (ty:=ty) (pos:=pos) (af:=af) (g:=g) H' C hs hy hU hI CH S3 hz S4 (by omega) (by rw[Nat.zero_add];exact hb) Of;rw[Nat.zero_add,hx,List.nil_append] at this;exact this
theorem aZ{t n e size:Nat}{ps:List (Nat×Operand)}{z:Value}{zl:List Value}{pl:List (Nat×Nat)}{vs:List (Nat×Value)}{out:List Value}(H:On W0 L w)
   (hU:P.underlying t=some (.slice e)) (hS:∀w,(sizeOf e).run P w=.ok size w) (hZ:∀w,(zeroValue e).run P w=.ok z w) (Oc:n*size≤16777216) (ZH:((Array.range (n*size)).map fun i=>(if n*size=0 then #[] else z.cells)[i % (if n*size=0 then #[] else z.cells).size]!)=zl.toArray)
   (ja:pl=(List.range n).map fun i=>(i*size,size))
   (hv:ps.map (fun p=>(p.1,ρ p.2))=vs) (dW:∀p∈vs,p.1<n) (hf:fits pl zl.length vs) (ho:kP pl zl vs=out) (r7:out.length=n*size) (hn:n≤maxLen):
   nr P ρ ⟨d,.buildSlice t n ps.toArray,ty,pos,af,g⟩ w (fun v w'=>∃b,v=.slice (some ⟨b,0,none⟩) n n∧On W0 (Own size (.slice (some ⟨b,0,none⟩) n n) n out::L) w'):=by
 rcases z7 (P:=P) (ρ:=ρ) (d:=d) (ty:=ty) (pos:=pos) (af:=af) (g:=g) H hU hS hZ Oc ZH ja hv dW hf ho with⟨v,w',h,b,B3,hO⟩|⟨w',h,b,B3,hO⟩|⟨f,args,w1,h,hc⟩
 · exact .inl ⟨v,w',h,b,B3,Own.CL hO r7 hn⟩
 · exact .inr (.inl ⟨w',h,b,B3,Own.CL hO r7 hn⟩)
 exact .inr (.inr ⟨f,args,w1,h,Calls.mono hc (by rintro e w' ⟨v,he,b,B3,hO⟩;exact⟨v,he,b,B3,Own.CL hO r7 hn⟩)⟩)
theorem foldl_push(bs:List UInt8):∀(s:ByteArray),bs.foldl (fun r c=>r.push c) s=⟨s.data++bs.toArray⟩:=by
 induction bs with
 |nil=>intro s;simp
 | cons c bs ih=>
   intro s;rw[List.foldl_cons,ih];simp[ByteArray.push]
theorem jx{src dst e n c:Nat}{a:Option Addr}{x:Operand}{bs:List UInt8}(hs:P.underlying src=some (.slice e))(he:P.underlying e=some (.int .u8))(hd:P.underlying dst=some .string)(hx:ρ x=.slice a n c)(C0:Cells 1 (.slice a n c) n (aL bs) (hp w)):
   (execOp ρ ⟨d,.convert src dst x,ty,pos,af,g⟩).run P w=.ok (.value (.string ⟨bs.toArray⟩)) w:=by
 have S7:n=bs.length:=by have:=C0.1;simpa using this.symm
 subst S7;have C:Bytes (.slice a bs.length c) bs (hp w):=C0;have hf:=fy (P:=P) C;obtain⟨hl,ao,cap,hv,h1,h2,h3,h4⟩:=C;rw[hv] at hf hx;clear hv;simp only[Builtin.firstCells,Nat.mul_one] at hf
 have key : ∀ (bs : List UInt8) (s : ByteArray) (w : World), (Sem.run P (forIn (aL bs).toArray s fun c s => do
     let .int .u8 n := c | stuck "bytesToString: byte expected"
     pure (ForInStep.yield (s.push (UInt8.ofNat n.toNat)))) w) = .ok (bs.foldl (fun r c => r.push c) s) w := by
   intro bs
   induction bs with
   |nil=>intro s w;simp
   | cons c bs ih=>
     intro s w;have:=ih (s.push c) w;simp only[List.forIn_toArray] at this⊢;simp only[aL,List.map_cons,List.forIn_cons,List.foldl_cons];simp only[Sem.run_bind];simp
 have aaG:(convert src dst (.slice ao bs.length cap)).run P w=.ok (.string ⟨bs.toArray⟩) w:=by
   cases ao with
   | none=>
     have hz:bs.length=0:=by have:=h3 rfl;omega
     have hb:bs=[]:=List.eq_nil_of_length_eq_zero hz;subst hb;simp[convert,run_underlying hs,run_underlying hd,run_underlying he,Conv.bytesToString];rfl
   | some a=>
     simp only at hf;have:=key bs ByteArray.empty w;rw[foldl_push] at this;simp[convert,run_underlying hs,run_underlying hd,run_underlying he,Conv.bytesToString,hf];simpa using this
 simp[execOp,hx,aaG]
end
end Go.Sl
namespace Go.Sl
open Go
theorem aB.cF{L L':List aC}{v:Value}{size n:Nat}{xs:List Value}[p:rZ L v size n xs L']:aB L (Cells size v n xs):=fun h H=>by
 obtain⟨h1,s,a⟩:=(p.out h H).fact;exact jV _ _ _ _ _ _ s a.cells
theorem LD(h:Hp):Bytes (.slice none 0 0) [] h:=⟨rfl,none,0,rfl,Nat.le_refl _,by simp,fun _=>rfl,fun h=>absurd h (by simp)⟩
theorem aB.rL{L:List aC}:aB L (Bytes (.slice none 0 0) []):=fun h _=>LD h
section
variable{P:Program}{W0 w:World}{L L':List aC}{ρ:Operand→Value}{d:Option Nat}{ty:TypeId}{pos:String}{af:Array Edge}{g:Option (Nat×Bool)}
theorem On.mark{b:Nat}{l:List Value}{e:Nat}{fr:Nat×Nat}(H:On W0 (aX b l e fr::L) w):On W0 (aX b l e (if fr.1==fr.2 then(l.length,l.length+1) else(min fr.1 l.length,max fr.2 (l.length+1)))::L) (w.freeze ⟨b,l.length,none⟩ 1):=by
 have hb:=H.block 0 rfl;refine H.set (w':=w.freeze ⟨b,l.length,none⟩ 1) 0 rfl rfl rfl rfl (by simp[World.freeze]) ?_ ?_
 · simp[World.freeze,Array.getElem?_modify,hb]
 intro k hk;simp[World.freeze,Array.getElem?_modify,Ne.symm hk]
theorem qP{t te n c:Nat}{a:Option Addr}{xs:List Value}{x:Operand}(H:On W0 L w)(hx:ρ x=.slice a n c)[p:rZ L (.slice a n c) 1 n xs L'](hn:0<n)
   (hU:P.underlying t=some (.slice te)) (hE:P.underlying te=some (.int .u8)):
   nr P ρ ⟨d,.convert t t x,ty,pos,af,g⟩ w (fun v w'=>v=.slice a n c∧On W0 (Own 1 (.slice a n c) n xs::L') w'):=by
 have H':=H.imp p.out;obtain⟨eC,ho⟩:=Own.mT H';rcases ho with⟨h0,_⟩|⟨gb,off,cap,cur,e',fr,hv,h1,h2,h3,h4,h5,Hb⟩
 · omega
 simp only[Value.slice.injEq] at hv;obtain⟨rfl,_,rfl⟩:=hv;have hb:=Hb.block 0 rfl;have hsh:w.shape? gb=some (e',cur.length):=by simp[World.shape?,hb]
 refine .inl ⟨.slice (some ⟨gb,off,none⟩) n c,w.freeze ⟨gb,cur.length,none⟩ 1, ?_,rfl, ?_⟩
 · simp[execOp,convert,run_underlying hU,run_underlying hE,hx,markStringish,hsh]
 refine Own.nA (On.mark Hb) eC h1 h2 h3 h4 ?_;split
 · exact .inr (Nat.le_refl _)
 rename_i l5;have:¬fr.1=fr.2:=by simpa using l5
 right;show cur.length≤min fr.1 cur.length;omega
end
end Go.Sl
namespace Go.Sl
open Go
theorem aB.old{W:World}{size n:Nat}{v:Value}{xs:List Value}(C:Cells size v n xs (hp W)):aB [old W] (Cells size v n xs):=fun h H=>by
 obtain⟨h1,s,o⟩:=H.fact;obtain⟨hl,ao,cap,hv,a1,a2,a3,a4⟩:=C;refine⟨hl,ao,cap,hv,a1,a2,a3,fun hn=> ?_⟩;obtain⟨b,off,he,r⟩:=a4 hn;refine⟨b,off,he,fun j u hj=> ?_⟩;have:=r j u hj;refine zX s ?_;unfold x7 at this⊢
 have dW:b<W.heap.size:=by
   rcases Nat.lt_or_ge b W.heap.size with h'|h'
   · exact h'
   exfalso;have hb:hp W b=none:=by simp[hp,Array.getElem?_eq_none h']
   rw[hb] at this;cases this
 rw[o b dW];exact this
end Go.Sl
namespace Go.Sl
open Go
variable{P:Program}{W:World}
def Rd(P:Program)(W:World)(e:TypeId)(R:List Value→Prop):Prop:=
 ∀(H:Type) (enc:TypeId×Value→H) (n:Nat) (cs:List Value) (x:DataW H×List MemPlace),DataW.trod enc P W 0 (fun _=>true) true n e cs=some x→R cs
theorem Rd.mono{e:TypeId}{R R':List Value→Prop}(h:Rd P W e R)(i:∀cs,R cs→R' cs):Rd P W e R':=fun H enc n cs x t=>i _ (h H enc n cs x t)
theorem Rd.use{e:TypeId}{R:List Value→Prop}(h:Rd P W e R){H:Type}{enc:TypeId×Value→H}{v:Value}{d:DataW H}{ps:List MemPlace}
   (t:DataW.Trod enc P W 0 (fun _=>true) true e v d ps):R v.cells.toList:=by
 obtain⟨n,t⟩:=t;exact h H enc n _ _ t
theorem WO{t:TypeId}{k:IntKind}(ht:P.underlying t=some (.int k)):Rd P W t (fun cs=>∃z,cs=[.int k z]∧(Lit.int k z).wf=true):=fun H enc n cs x h=>by
 obtain⟨z,h1,_,h2⟩:=DataW.trod_int ht h;exact⟨z,h1,h2⟩
theorem FL{s:Nat}{rows:List (List Value)}(hr:∀r∈rows,r.length=s)(j:Nat)(u:Value)(h:rows.flatten[j]? =some u):
   ∃i k r,j=i*s+k∧k<s∧rows[i]? =some r∧r[k]? =some u:=by
 induction rows generalizing j with
 |nil=>simp at h
 | cons r rows ih=>
   have hl:r.length=s:=hr r (by simp);rw[List.flatten_cons] at h;rcases Nat.lt_or_ge j s with hj|hj
   · rw[List.getElem?_append_left (by omega)] at h
     exact⟨0,j,r,by omega,hj,rfl,h⟩
   rw[List.getElem?_append_right (by omega),hl] at h;obtain⟨i,k,q,h1,h2,h3,h4⟩:=ih (fun r m=>hr r (by simp[m])) (j - s) h;exact⟨i+1,k,q,by rw[Nat.add_mul];omega,h2,by simpa using h3,h4⟩
theorem Ae{s:Nat}{rows:List (List Value)}(hr:∀r∈rows,r.length=s):rows.flatten.length=rows.length*s:=by
 induction rows with
 |nil=>simp
 | cons r rows ih=>
   rw[List.flatten_cons,List.length_append,ih (fun r m=>hr r (by simp[m])),hr r (by simp),List.length_cons,Nat.add_mul];omega
theorem Og{t e:TypeId}{s:Nat}{R:List Value→Prop}(ht:P.underlying t=some (.slice e))(hc:P.cellsOf e=s)(hs:0<s)(he:Rd P W e R):
   Rd P W t (fun cs=>∃a c,∃rows:List (List Value),cs=[.slice a rows.length c]∧(∀r∈rows,r.length=s∧R r)∧Cells s (.slice a rows.length c) rows.length rows.flatten (hp W)):=fun H enc n cs x h=>by
 rcases Deep.open_slice ht h with⟨rfl,_⟩|⟨a,len,cap,m,n,D,Pl,rfl,hb,hl,hm,H7,_,hx⟩
 · exact⟨none,0,[],rfl,by simp,by simp,none,0,rfl,by simp,by simp[maxLen],fun _=>rfl,by simp⟩
 rw[hc] at hx;have hlm:len≤m:=by simp at H7;omega
 obtain⟨f,hf⟩:=Deep.choose_lt (n:=len) (p:=fun i cs'=>W.cells? 0 (a.add (i*s)) s=some cs'∧DataW.trod enc P W 0 (fun _=>true) true n e cs'=some (D i,Pl i)) (fun i hi=>hx i (by omega))
 have FM:∀r∈(List.range len).map f,r.length=s∧R r:=by
   intro r hr;obtain⟨i,hi,rfl⟩:=List.mem_map.1 hr;have:=hf i (by simpa using hi);exact⟨(World.cells?_some this.1).2.1,he H enc n _ _ this.2⟩
 have hlen:((List.range len).map f).length=len:=by simp
 refine⟨some a,cap,(List.range len).map f,by rw[hlen],FM, ?_⟩;rw[hlen];refine⟨by rw[Ae (fun r h=>(FM r h).1),hlen],some a,cap,rfl,hl,hm,by simp,fun Ir=> ?_⟩;obtain⟨b,o,spot⟩:=a;have h0:=World.cells?_some (hf 0 Ir).1;have Ko:=h0.2.2 0 hs;obtain⟨v0,WQ⟩:∃v,(f 0)[0]? =some v:=⟨(f 0)[0]'(by omega),by simp⟩;rw[WQ] at Ko
 have aaH:spot=none:=by
   have:=World.cell?_spot Ko;simpa [Addr.add] using this
 subst aaH;refine⟨b,o,rfl,fun j u hj=> ?_⟩;obtain⟨i,k,r,rfl,hk,yX,Fx⟩:=FL (fun r h=>(FM r h).1) j u hj
 have hi:i<len:=by
   have:=(List.getElem?_eq_some_iff.1 yX).1;simpa using this
 have afg:f i=r:=by
   rw[List.getElem?_map,List.getElem?_range hi] at yX;simpa using yX
 subst afg;have h2:=(World.cells?_some (hf i hi).1).2.2 k hk;rw[Fx,Deep.add_add] at h2;rw[zY];rw[←h2]
 congr 1
 unfold Addr.add;split<;>simp_all
theorem Is{α:Type}{Q:α→Prop}{f:α→List Value}{R:List Value→Prop}{rows:List (List Value)}(h:∀r∈rows,R r)(i:∀r,R r→∃a,r=f a∧Q a):∃l:List α,rows=l.map f∧∀a∈l,Q a:=by
 induction rows with
 |nil=>exact⟨[],rfl,by simp⟩
 | cons r rows ih=>
   obtain⟨l,rfl,hl⟩:=ih (fun r m=>h r (by simp[m]));obtain⟨a,rfl,ha⟩:=i r (h r (by simp));exact⟨a::l,rfl,by simpa using⟨ha,hl⟩⟩
theorem It{α:Type}{t e:TypeId}{s:Nat}{Q:α→Prop}{f:α→List Value}(ht:P.underlying t=some (.slice e))(hc:P.cellsOf e=s)(hs:0<s)(he:Rd P W e (fun cs=>∃a,cs=f a∧Q a)):
   Rd P W t (fun cs=>∃a c,∃l:List α,cs=[.slice a l.length c]∧(∀x∈l,Q x)∧Cells s (.slice a l.length c) l.length (l.flatMap f) (hp W)):=
 (Og ht hc hs he).mono fun cs ⟨a,c,rows,iG,hr,hC⟩=>by
   obtain⟨l,rfl,hl⟩:=Is (Q:=Q) (f:=f) (R:=fun r=>r.length=s∧∃a,r=f a∧Q a) hr (fun r ⟨_,h⟩=>h);exact⟨a,c,l,by simpa using iG,hl,by simpa [List.flatMap_def] using hC⟩
theorem Af{α:Type}(g:α→Value)(l:List α):(l.flatMap fun a=>[g a])=l.map g:=by
 induction l with
 |nil=>rfl
 |cons x l ih=>simp[List.flatMap_cons,ih]
end Go.Sl
namespace Go.Sl
open Go
section
variable{P:Program}{N:Nat}{ops:Array Oper}{K:Env→World→Prop}{env:Env}{w:World}{rest:List Oper}{o:Oper}{x:Operand}{d:Option Nat}{ty:TypeId}{pos:String}{af:Array Edge}{g:Option (Nat×Bool)}
end
section
variable{P:Program}{N:Nat}{env:Env}{w:World}{Q:Exit→Env→World→Prop}
end
section
variable{P:Program}{N:Nat}{ops:Array Oper}{K:Env→World→Prop}{env:Env}{w:World}{T:mh}{fuel:Nat}{aM:Array Bool}{x:Operand}{d:Option Nat}{ty:TypeId}{pos:String}{af:Array Edge}{g:Option (Nat×Bool)}
end
end Go.Sl
namespace Go.Sl
open Go
def Oh(o:Oper):Bool:=match o.op with| .load .. =>true|_=>false
def uC(o:Oper):Bool:=match o.op with
 | .move .. =>false| .assign .. =>false| .pick .. =>false| .nilCheck .. =>false| .binOp .. =>false| .unOp .. =>false| .convert .. =>false| .fieldAddr .. =>false| .field .. =>false
 | .indexAddr .. =>false| .index .. =>false| .extract .. =>false| .slice .. =>false| .build .. =>false| .makeFunc .. =>false| .makeInterface .. =>false| .load .. =>false
 | .call c=>(match c.callee with| .builtin .len=>false| .builtin .cap=>false| .builtin .min=>false| .builtin .max=>false|_=>true)
 |_=>true
def kQ(k n:Nat):Array Bool:=(List.replicate k true++List.replicate (n - k) false).toArray
theorem D7(n:Nat):kQ 0 n=Array.replicate n false:=by simp[kQ]
theorem mo{k n:Nat}(h:k<n):(kQ k n).setIfInBounds k true=kQ (k+1) n:=by
 have e:n - k=(n - (k+1))+1:=by omega
 unfold kQ;rw[List.setIfInBounds_toArray,e,List.replicate_succ,List.set_append,if_neg (by simp)];simp[List.replicate_succ',List.append_assoc]
def loadAt(ops:Array Oper)(i:Nat):Bool:=match ops[i]? with|some o=>Oh o|none=>false
def okF(ops:Array Oper):Bool:=decide (Region.ready .any ops (kQ ops.size ops.size)=[])&&(List.range ops.size).all fun k=>match ops[k]? with
 |none=>false
 |some o=>if uC o then decide (Region.ready .any ops (kQ k ops.size)=[k])&&(List.range k).all (fun i=> !loadAt ops i||waits ops k i) else kg ops (kQ k ops.size) k
section
variable{P:Program}{N:Nat}{ops:Array Oper}{K:Env→World→Prop}{env:Env}{w:World}{rest:List Oper}{o:Oper}
def WD(P:Program)(N:Nat)(ops:Array Oper)(K:Env→World→Prop)(l:List Oper)(env:Env)(w:World):Prop:=
 okF ops=true→∀(pre:List Oper) (T:mh),ops.toList=pre++l→(∀p∈T,p.1<pre.length∧loadAt ops p.1=true)→WT P N ops K l.length T (kQ pre.length ops.size) env w
theorem Ag{k:Nat}{o:Oper}(h:okF ops=true)(ho:ops[k]? =some o):if uC o then Region.ready .any ops (kQ k ops.size)=[k]∧∀i,i<k→loadAt ops i=true→waits ops k i=true else kg ops (kQ k ops.size) k=true:=by
 have hk:k<ops.size:=(Array.getElem?_eq_some_iff.1 ho).1;unfold okF at h;rw[Bool.and_eq_true] at h;have h2:=List.all_eq_true.1 h.2 k (List.mem_range.2 hk);simp only[ho] at h2;split
 · rename_i he
   rw[if_pos he,Bool.and_eq_true] at h2;refine⟨of_decide_eq_true h2.1,fun i hi hl=> ?_⟩;have h3:=List.all_eq_true.1 h2.2 i (List.mem_range.2 hi);rw[hl] at h3;simpa using h3
 rename_i he;rw[if_neg he] at h2;exact h2
theorem Ah{pre:List Oper}(h:ops.toList=pre++o::rest):ops[pre.length]? =some o∧pre.length<ops.size∧ops.toList=(pre++[o])++rest∧(pre++[o]).length=pre.length+1:=by
 have e:ops[pre.length]? =some o:=by rw[←Array.getElem?_toList,h];simp
 exact⟨e,(Array.getElem?_eq_some_iff.1 e).1,by rw[h,List.append_assoc];rfl,by simp⟩
theorem WD.val{v:Value}(hr:∀w',(execOp (cN env) o).run P w'=.ok (.value v) w')(hw:Region.wanted o (aU ops env)=true)(hd:iN N o.dst=true)(he:uC o=false)
   (k:WD P N ops K rest (cP env o.dst v) w):WD P N ops K (o::rest) env w:=fun hF pre T hp hT=>by
 obtain⟨h1,h2,h3,h4⟩:=Ah hp;have ht:=Ag hF h1;rw[he,if_neg (by decide)] at ht;refine WT.pure pre.length h1 ht hr hw hd ?_;rw[mo h2,←h4];exact k hF _ T h3 fun p hp=>⟨by rw[h4];have:=(hT p hp).1;omega,(hT p hp).2⟩
theorem WD.skip(hw:Region.wanted o (aU ops env)=false)(hd:iN N o.dst=true)(he:uC o=false)
   (k:WD P N ops K rest (cP env o.dst undef) w):WD P N ops K (o::rest) env w:=fun hF pre T hp hT=>by
 obtain⟨h1,h2,h3,h4⟩:=Ah hp;have ht:=Ag hF h1;rw[he,if_neg (by decide)] at ht;refine WT.skip pre.length h1 ht hw hd ?_;rw[mo h2,←h4];exact k hF _ T h3 fun p hp=>⟨by rw[h4];have:=(hT p hp).1;omega,(hT p hp).2⟩
theorem WD.take{v:Value}(S:World→Prop)(hS:S w)(hv:∀w',S w'→(execOp (cN env) o).run P w'=.ok (.value v) w')(hw:Region.wanted o (aU ops env)=true)(hd:iN N o.dst=true)(hl:Oh o=true)(he:uC o=false)
   (k:WD P N ops K rest (cP env o.dst v) w):WD P N ops K (o::rest) env w:=fun hF pre T hp hT=>by
 obtain⟨h1,h2,h3,h4⟩:=Ah hp;have ht:=Ag hF h1;rw[he,if_neg (by decide)] at ht;refine WT.take pre.length S h1 ht hw hd hS hv ?_;rw[mo h2,←h4];refine k hF _ _ h3 fun p hp=> ?_;rcases List.mem_cons.1 hp with rfl|hp
 · exact⟨by rw[h4];exact Nat.lt_succ_self _,by unfold loadAt;rw[h1];exact hl⟩
 exact⟨by rw[h4];have:=(hT p hp).1;omega,(hT p hp).2⟩
theorem qQ(T:mh):cX (T.map fun _=>false) T=[]:=by
 induction T with
 |nil=>rfl
 |cons p T ih=>exact ih
theorem WD.BP{R:Value→World→Prop}(hE:nr P (cN env) o w R)(hw:Region.wanted o (aU ops env)=true)(hd:iN N o.dst=true)(he:uC o=true)
   (k:∀v w',R v w'→WD P N ops K rest (cP env o.dst v) w'):WD P N ops K (o::rest) env w:=fun hF pre T hp hT=>by
 obtain⟨h1,h2,h3,h4⟩:=Ah hp;have ht:=Ag hF h1;rw[he,if_pos rfl] at ht
 have hO:ei ops pre.length T=cX (T.map fun _=>false) T:=by
   rw[qQ];unfold ei;rw[List.filter_eq_nil_iff];intro p hp;rw[ht.2 p.1 (hT p hp).1 (hT p hp).2];decide
 refine WT.BP pre.length (T.map fun _=>false) h1 ht.1 hO hE hw hd fun v w' hR=> ?_;rw[qQ];refine⟨trivial, ?_⟩;rw[mo h2,←h4];exact k v w' hR hF _ [] h3 fun p hp=>absurd hp (by simp)
theorem WT.S8{T:mh}{fuel:Nat}{aM:Array Bool}(i:Nat){oi:Oper}(mask:List Bool)(hi:ops[i]? =some oi)(hr:Region.ready .any ops aM=[i])(hT:ei ops i T=cX mask T)
   (hw:Region.wanted oi (aU ops env)=false) (hd:iN N oi.dst=true)
   (k:jt (cX mask T) w∧WT P N ops K fuel (cX mask T) (aM.setIfInBounds i true) (cP env oi.dst undef) w):WT P N ops K (fuel+1) T aM env w:=fun hp a r=>by
 rw[←hT] at k;refine⟨fun e=>absurd (hr▸e) (by simp), ?_⟩;rw[hr];intro j hj;rw[List.mem_singleton] at hj;subst hj;unfold wpOp;have hy:yielded ops a.tmps=aU ops env:=funext fun j=>r.yielded ops j;simp only[hi];rw[hy,if_neg (by rw[hw];decide)];exact⟨vn k.1,k.2 k.1 _ (r.vl hd undef)⟩
theorem WD.aaI(hw:Region.wanted o (aU ops env)=false)(hd:iN N o.dst=true)(he:uC o=true)
   (k:WD P N ops K rest (cP env o.dst undef) w):WD P N ops K (o::rest) env w:=fun hF pre T hp hT=>by
 obtain⟨h1,h2,h3,h4⟩:=Ah hp;have ht:=Ag hF h1;rw[he,if_pos rfl] at ht
 have hO:ei ops pre.length T=cX (T.map fun _=>false) T:=by
   rw[qQ];unfold ei;rw[List.filter_eq_nil_iff];intro p hp;rw[ht.2 p.1 (hT p hp).1 (hT p hp).2];decide
 refine WT.S8 pre.length (T.map fun _=>false) h1 ht.1 hO hw hd ?_;rw[qQ];refine⟨trivial, ?_⟩;rw[mo h2,←h4];exact k hF _ [] h3 fun p hp=>absurd hp (by simp)
theorem WD.nil(h:K env w):WD P N ops K [] env w:=fun hF pre T hp hT=>by
 have e:pre.length=ops.size:=by rw[←Array.length_toList,hp,List.append_nil]
 rw[e];refine WT.done ?_ h;unfold okF at hF;rw[Bool.and_eq_true] at hF;exact of_decide_eq_true hF.1
theorem W.ez{Q:Exit→Env→World→Prop}{id:Nat}{l:List Oper}{W0:World}{L:List aC}(hm:P.follows .mixedOrders=true)(hO:On W0 L w)(hF:okF l.toArray=true)
   (h:∀w',On W0 L w'→WD P N l.toArray (fun eZ w'=>Q .normal eZ w') l env w'):W P N (.region id l.toArray true) Q env w:=W.draw hm hO fun w' Ip=>by
 have:=h w' Ip hF [] [] (by simp) (fun p hp=>absurd hp (by simp));rw[show([]:List Oper).length=0 from rfl,D7] at this;rw[show l.toArray.size=l.length by simp] at this;exact this
class SR(P:outParam Program)(N:outParam Nat)(ops:outParam (Array Oper))(R:List Oper→Env→World→Prop):Prop where
 val:∀{o:Oper} {rest:List Oper} {env:Env} {w:World} {v:Value},(∀w',(execOp (cN env) o).run P w'=.ok (.value v) w')→Region.wanted o (aU ops env)=true→iN N o.dst=true→uC o=false→R rest (cP env o.dst v) w→R (o::rest) env w
 skip:∀{o:Oper} {rest:List Oper} {env:Env} {w:World},Region.wanted o (aU ops env)=false→iN N o.dst=true→R rest (cP env o.dst undef) w→R (o::rest) env w
 take:∀{o:Oper} {rest:List Oper} {env:Env} {w:World} {v:Value} (S:World→Prop),S w→(∀w',S w'→(execOp (cN env) o).run P w'=.ok (.value v) w')→Region.wanted o (aU ops env)=true→iN N o.dst=true→Oh o=true→uC o=false→R rest (cP env o.dst v) w→R (o::rest) env w
 BP:∀{o:Oper} {rest:List Oper} {env:Env} {w:World} {E:Value→World→Prop},nr P (cN env) o w E→Region.wanted o (aU ops env)=true→iN N o.dst=true→uC o=true→(∀v w',E v w'→R rest (cP env o.dst v) w')→R (o::rest) env w
instance:SR P N ops (WL P N ops K):=⟨fun h1 h2 h3 _ k=>WL.val (h1 _) h2 h3 k,fun h1 h2 k=>WL.skip h1 h2 k,fun S h0 h1 h2 h3 _ _ k=>WL.val (h1 _ h0) h2 h3 k,fun h1 h2 h3 _ k=>WL.BP h1 h2 h3 k⟩
instance : SR P N ops (WD P N ops K) := ⟨fun h1 h2 h3 h4 k => WD.val h1 h2 h3 h4 k, fun {o} _ _ _ h1 h2 k => by
 cases he:uC o with
 |true=>exact WD.aaI h1 h2 he k
 | false => exact WD.skip h1 h2 he k, fun S h0 h1 h2 h3 h4 h5 k => WD.take S h0 h1 h2 h3 h4 h5 k, fun h1 h2 h3 h4 k => WD.BP h1 h2 h3 h4 k⟩
end
end Go.Sl
namespace Go.Sl
open Go
class bh(P:Program)(s fi:Nat)(off:outParam Nat):Prop where
 h:∃fs f n,P.underlying s=some (.struct fs)∧fs[fi]? =some f∧(∀w,(sizeOf f.type).run P w=.ok (n+1) w)∧f.offset=off
class FvC(P:Program)(s fi:Nat)(off:outParam Nat):Prop where
 h:∃fs f,P.underlying s=some (.struct fs)∧fs[fi]? =some f∧(∀w,(isAgg f.type).run P w=.ok false w)∧f.offset=off
class oW(P:Program)(t:Nat):Prop where
 h:∃e,P.underlying t=some (.slice e)
class gj(P:Program)(t:Nat)(n:outParam Nat):Prop where
 h:∀w,(sizeOf t).run P w=.ok n w
class ew(P:Program)(t:Nat)(b:outParam Bool):Prop where
 h:∀w,(isAgg t).run P w=.ok b w
class r8(P:Program)(t:Nat)(l:outParam (List Value)):Prop where
 h:∃z,(∀w,(zeroValue t).run P w=.ok z w)∧z.cells=l.toArray
class akb(P:Program)(f:Nat):Prop where
 h:∀args w,(callFunc f args).run P w=.ok (.enter f args) w
class S9(l:List Value)(o:Nat)(v:outParam Value):Prop where
 h:l[o]? =some v
instance{x:Value}{l:List Value}:S9 (x::l) 0 x:=⟨rfl⟩
instance{x v:Value}{l:List Value}{n:Nat}[s:S9 l n v]:S9 (x::l) (n+1) v:=⟨s.h⟩
class Ta(l:List Value)(o:Nat)(v:Value)(l':outParam (List Value)):Prop where
 h:l.set o v=l'∧o<l.length
instance{x v:Value}{l:List Value}:Ta (x::l) 0 v (v::l):=⟨rfl,by simp⟩
instance{x v:Value}{l l':List Value}{n:Nat}[s:Ta l n v l']:Ta (x::l) (n+1) v (x::l'):=⟨by rw[←s.h.1];rfl,by have:=s.h.2;simp;omega⟩
class Iu(l:List Value)(o:Nat)(vs:List Value)(l':outParam (List Value)):Prop where
 h:cE l o vs=l'∧o+vs.length≤l.length
instance{l:List Value}:Iu l 0 [] l:=⟨by simp[cE]⟩
instance {x v : Value} {l vs l' : List Value} [s : Iu l 0 vs l'] : Iu (x :: l) 0 (v :: vs) (v :: l') := ⟨by
 obtain ⟨h1, h2⟩ := s.h;subst h1;simp [cE] at h2 ⊢; omega⟩
instance {x : Value} {l vs l' : List Value} {n : Nat} [s : Iu l n vs l'] : Iu (x :: l) (n + 1) vs (x :: l') := ⟨by
 obtain ⟨h1, h2⟩ := s.h;subst h1;refine ⟨?_, by simp; omega⟩;unfold cE;rw [show n + 1 + vs.length = (n + vs.length) + 1 by omega];rfl⟩
class LF(l:List Value)(o n:Nat)(vs:outParam (List Value)):Prop where
 h:(l.drop o).take n=vs∧vs.length=n
instance{l:List Value}:LF l 0 0 []:=⟨by simp⟩
instance {x : Value} {l vs : List Value} {n : Nat} [s : LF l 0 n vs] : LF (x :: l) 0 (n + 1) (x :: vs) := ⟨by
 obtain ⟨h1, h2⟩ := s.h;refine ⟨?_, by simp [h2]⟩;rw [List.drop_zero] at h1 ⊢;rw [List.take_succ_cons, h1]⟩
instance{x:Value}{l vs:List Value}{o n:Nat}[s:LF l o n vs]:LF (x::l) (o+1) n vs:=⟨s.h⟩
class RdL(L:List aC)(b o:Nat)(v:outParam Value):Prop where
 h:∃l e fr,(∀h,Sat L h→h b=some (obj l e fr))∧l[o]? =some v
instance{L:List aC}{b o:Nat}{l:List Value}{e:Nat}{fr:Nat×Nat}{v:Value}[s:S9 l o v]:RdL (aX b l e fr::L) b o v:=⟨l,e,fr,dQ.here.out,s.h⟩
instance (priority := low) {A : aC} {L : List aC} {b o : Nat} {v : Value} [s : RdL L b o v] : RdL (A :: L) b o v := ⟨by
 obtain ⟨l, e, fr, h1, h2⟩ := s.h;exact ⟨l, e, fr, fun h H => h1 h H.tail, h2⟩⟩
class RnL(L:List aC)(b o n:Nat)(vs:outParam (List Value)):Prop where
 h:∃l e fr,(∀h,Sat L h→h b=some (obj l e fr))∧(l.drop o).take n=vs∧vs.length=n
instance{L:List aC}{b o n:Nat}{l vs:List Value}{e:Nat}{fr:Nat×Nat}[s:LF l o n vs]:RnL (aX b l e fr::L) b o n vs:=⟨l,e,fr,dQ.here.out,s.h.1,s.h.2⟩
instance (priority := low) {A : aC} {L : List aC} {b o n : Nat} {vs : List Value} [s : RnL L b o n vs] : RnL (A :: L) b o n vs := ⟨by
 obtain ⟨l, e, fr, h1, h2⟩ := s.h;exact ⟨l, e, fr, fun h H => h1 h H.tail, h2⟩⟩
class WrL(L:List aC)(b o:Nat)(v:Value)(L':outParam (List aC)):Prop where
 h:∃i l e,L[i]? =some (aX b l e (0,0))∧o<l.length∧L'=L.set i (aX b (l.set o v) e (0,0))
instance{L:List aC}{b o:Nat}{l l':List Value}{e:Nat}{v:Value}[s:Ta l o v l']:WrL (aX b l e (0,0)::L) b o v (aX b l' e (0,0)::L):=⟨0,l,e,rfl,s.h.2,by rw[s.h.1];rfl⟩
instance (priority := low) {A : aC} {L L' : List aC} {b o : Nat} {v : Value} [s : WrL L b o v L'] : WrL (A :: L) b o v (A :: L') := ⟨by
 obtain ⟨i, l, e, h1, h2, h3⟩ := s.h;exact ⟨i + 1, l, e, by simpa using h1, h2, by rw [h3]; rfl⟩⟩
class WnL(L:List aC)(b o:Nat)(vs:List Value)(L':outParam (List aC)):Prop where
 h:∃i l e,L[i]? =some (aX b l e (0,0))∧o+vs.length≤l.length∧L'=L.set i (aX b (cE l o vs) e (0,0))
instance{L:List aC}{b o:Nat}{l l' vs:List Value}{e:Nat}[s:Iu l o vs l']:WnL (aX b l e (0,0)::L) b o vs (aX b l' e (0,0)::L):=⟨0,l,e,rfl,s.h.2,by rw[s.h.1];rfl⟩
instance (priority := low) {A : aC} {L L' : List aC} {b o : Nat} {vs : List Value} [s : WnL L b o vs L'] : WnL (A :: L) b o vs (A :: L') := ⟨by
 obtain ⟨i, l, e, h1, h2, h3⟩ := s.h;exact ⟨i + 1, l, e, by simpa using h1, h2, by rw [h3]; rfl⟩⟩
section
variable{P:Program}{N:Nat}{ops:Array Oper}{R:List Oper→Env→World→Prop}{env:Env}{w W0:World}{L L':List aC}{rest:List Oper}{o:Oper}{x y:Operand}{d:Option Nat}{ty:TypeId}{pos:String}{af:Array Edge}{g:Option (Nat×Bool)}
theorem X.m[c:SR P N ops R](k:R rest (cP env d (cN env x)) w)(hw:Region.wanted ⟨d,.move x,ty,pos,af,g⟩ (aU ops env)=true:=by rfl)(hd:iN N d=true:=by rfl):R (⟨d,.move x,ty,pos,af,g⟩::rest) env w:=c.val (fun _=>run_move) hw hd rfl k
theorem X.a[c:SR P N ops R](k:R rest (cP env d (cN env x)) w)(hw:Region.wanted ⟨d,.assign x,ty,pos,af,g⟩ (aU ops env)=true:=by rfl)(hd:iN N d=true:=by rfl):R (⟨d,.assign x,ty,pos,af,g⟩::rest) env w:=c.val (fun _=>run_assign) hw hd rfl k
theorem X.n[c:SR P N ops R]{a:Addr}(h:cN env x=.pointer (some a))(k:R rest (cP env d (.pointer (some a))) w)(hw:Region.wanted ⟨d,.nilCheck x,ty,pos,af,g⟩ (aU ops env)=true:=by rfl)(hd:iN N d=true:=by rfl):R (⟨d,.nilCheck x,ty,pos,af,g⟩::rest) env w:=c.val (fun _=>jv h) hw hd rfl k
theorem X.ex[c:SR P N ops R]{i:Nat}{vs:List Value}{v:Value}(h:cN env x=.tuple vs.toArray)(hv:vs[i]? =some v)(k:R rest (cP env d v) w)(hw:Region.wanted ⟨d,.extract x i,ty,pos,af,g⟩ (aU ops env)=true:=by rfl)(hd:iN N d=true:=by rfl):R (⟨d,.extract x i,ty,pos,af,g⟩::rest) env w:=c.val (fun _=>bZ h hv) hw hd rfl k
theorem X.s[c:SR P N ops R](k:R rest (cP env o.dst undef) w)(hw:Region.wanted o (aU ops env)=false:=by rfl)(hd:iN N o.dst=true:=by rfl):R (o::rest) env w:=c.skip hw hd k
theorem X.fa[c:SR P N ops R]{s fi b off:Nat}[u:bh P s fi off](h:cN env x=.pointer (some ⟨b,0,none⟩))(k:R rest (cP env d (.pointer (some ⟨b,off,none⟩))) w)(hw:Region.wanted ⟨d,.fieldAddr s x fi,ty,pos,af,g⟩ (aU ops env)=true:=by rfl)(hd:iN N d=true:=by rfl):R (⟨d,.fieldAddr s x fi,ty,pos,af,g⟩::rest) env w:=by
 obtain⟨fs,f,n,h1,h2,h3,h4⟩:=u.h;refine c.val (fun w'=> ?_) hw hd rfl k;have:=fm (P:=P) (w:=w') (ρ:=cN env) (d:=d) (ty:=ty) (pos:=pos) (af:=af) (g:=g) off h1 h2 h3 h h4;rw[Nat.zero_add] at this;exact this
theorem X.fo[c:SR P N ops R]{s fi b o off:Nat}[u:bh P s fi off](h:cN env x=.pointer (some ⟨b,o,none⟩))(k:R rest (cP env d (.pointer (some ⟨b,o+off,none⟩))) w)(hw:Region.wanted ⟨d,.fieldAddr s x fi,ty,pos,af,g⟩ (aU ops env)=true:=by rfl)(hd:iN N d=true:=by rfl):R (⟨d,.fieldAddr s x fi,ty,pos,af,g⟩::rest) env w:=by
 obtain⟨fs,f,n,h1,h2,h3,h4⟩:=u.h;exact c.val (fun w'=>fm off h1 h2 h3 h h4) hw hd rfl k
theorem X.fv[c:SR P N ops R]{s fi off:Nat}{vs:List Value}{v:Value}[u:FvC P s fi off](h:cN env x=.agg vs.toArray)(hv:vs[off]? =some v)(k:R rest (cP env d v) w)(hw:Region.wanted ⟨d,.field s x fi,ty,pos,af,g⟩ (aU ops env)=true:=by rfl)(hd:iN N d=true:=by rfl):R (⟨d,.field s x fi,ty,pos,af,g⟩::rest) env w:=by
 obtain⟨fs,f,h1,h2,h3,h4⟩:=u.h;subst h4;exact c.val (fun w'=>Iq h1 h2 h3 h hv) hw hd rfl k
theorem X.ln[c:SR P N ops R]{t n c':Nat}{a:Option Addr}[u:oW P t](h:cN env x=.slice a n c')(k:R rest (cP env d (.int .i64 n)) w)(hw:Region.wanted ⟨d,.call {callee:=.builtin .len,args:=#[x],argTypes:=#[t]},ty,pos,af,g⟩ (aU ops env)=true:=by rfl)(hd:iN N d=true:=by rfl):R (⟨d,.call {callee:=.builtin .len,args:=#[x],argTypes:=#[t]},ty,pos,af,g⟩::rest) env w:=by
 obtain⟨e,h1⟩:=u.h;exact c.val (fun w'=>kO h1 h) hw hd rfl k
theorem X.lo[c:SR P N ops R]{t b o:Nat}{v:Value}[a:ew P t false](H:On W0 L w)(h:cN env x=.pointer (some ⟨b,o,none⟩))[r:RdL L b o v](k:R rest (cP env d v) w)(hw:Region.wanted ⟨d,.load t x,ty,pos,af,g⟩ (aU ops env)=true:=by rfl)(hd:iN N d=true:=by rfl):R (⟨d,.load t x,ty,pos,af,g⟩::rest) env w:=by
 obtain⟨l,e,fr,h1,h2⟩:=r.h;exact c.take (fun w'=>w'.cell? ⟨b,o,none⟩=some v) (by rw[cell_of_row w b o _ _ _ (h1 _ H.sat)];simpa using h2) (fun w' hc=>jw a.h h hc) hw hd rfl rfl k
theorem X.lc[c:SR P N ops R]{t b o:Nat}{v:Value}[a:ew P t false](h:cN env x=.pointer (some ⟨b,o,none⟩))(hc:w.cell? ⟨b,o,none⟩=some v)(k:R rest (cP env d v) w)(hw:Region.wanted ⟨d,.load t x,ty,pos,af,g⟩ (aU ops env)=true:=by rfl)(hd:iN N d=true:=by rfl):R (⟨d,.load t x,ty,pos,af,g⟩::rest) env w:=c.take (fun w'=>w'.cell? ⟨b,o,none⟩=some v) hc (fun w' hc=>jw a.h h hc) hw hd rfl rfl k
theorem X.lr[c:SR P N ops R]{t n b o:Nat}{vs:List Value}[hA:ew P t true][hS:gj P t n](h:cN env x=.pointer (some ⟨b,o,none⟩))(hc:∀j u,vs[j]? =some u→w.cell? ⟨b,o+j,none⟩=some u)(hl:vs.length=n)(k:R rest (cP env d (.agg vs.toArray)) w)(hw:Region.wanted ⟨d,.load t x,ty,pos,af,g⟩ (aU ops env)=true:=by rfl)(hd:iN N d=true:=by rfl):R (⟨d,.load t x,ty,pos,af,g⟩::rest) env w:=c.take (fun w'=>∀j u,vs[j]? =some u→w'.cell? ⟨b,o+j,none⟩=some u) hc (fun w' hc=>gi hA.h hS.h h hl hc) hw hd rfl rfl k
theorem X.ld[c:SR P N ops R]{t n b oo:Nat}{vs:List Value}[hA:ew P t true][hS:gj P t n](H:On W0 L w)(h:cN env x=.pointer (some ⟨b,oo,none⟩))[r:RnL L b oo n vs](k:R rest (cP env d (.agg vs.toArray)) w)(hw:Region.wanted ⟨d,.load t x,ty,pos,af,g⟩ (aU ops env)=true:=by rfl)(hd:iN N d=true:=by rfl):R (⟨d,.load t x,ty,pos,af,g⟩::rest) env w:=by
 obtain⟨l,e,fr,h1,h2,h3⟩:=r.h;refine X.lr h (fun j u hj=> ?_) h3 k hw hd;have:=H.WI (i:=⟨h1⟩) (o:=oo) (n:=n);rw[h2] at this;exact this j u hj
theorem X.st[c:SR P N ops R]{t b oo:Nat}{v:Value}[hS:gj P t 1](H:On W0 L w)(h:cN env x=.pointer (some ⟨b,oo,none⟩))(hy:cN env y=v)(hv:v.oneCell'=true)[u:WrL L b oo v L'](k:∀w',On W0 L' w'→∀v',R rest (cP env d v') w')(hw:Region.wanted ⟨d,.store t x y,ty,pos,af,g⟩ (aU ops env)=true:=by rfl)(hd:iN N d=true:=by rfl):R (⟨d,.store t x y,ty,pos,af,g⟩::rest) env w:=by
 obtain⟨j,l,e,h1,h2,h3⟩:=u.h;have hf:free (0,0) oo=true:=oH (n:=oo+1) (.inl rfl) (by omega);refine c.BP (E:=fun _ w'=>On W0 L' w') (.inr (.inl ⟨_,qH hS.h h hy hv (H.block j h1) (by rw[Nat.ble_eq];omega) hf, ?_⟩)) hw hd rfl (fun v' w' h'=>k w' h' v');rw[h3];exact H.zW j h1 oo v
theorem X.sn[c:SR P N ops R]{t n b oo:Nat}{vs:List Value}[hS:gj P t n](H:On W0 L w)(h:cN env x=.pointer (some ⟨b,oo,none⟩))(hy:cN env y=.agg vs.toArray)(hn:vs.length=n)(hv:vs.all (·.oneCell')=true)[u:WnL L b oo vs L'](k:∀w',On W0 L' w'→∀v',R rest (cP env d v') w')(hw:Region.wanted ⟨d,.store t x y,ty,pos,af,g⟩ (aU ops env)=true:=by rfl)(hd:iN N d=true:=by rfl):R (⟨d,.store t x y,ty,pos,af,g⟩::rest) env w:=by
 obtain⟨j,l,e,h1,h2,h3⟩:=u.h;obtain⟨w',hr,hO⟩:=ux (P:=P) (ρ:=cN env) (d:=d) (ty:=ty) (pos:=pos) (af:=af) (g:=g) H h1 hS.h h hy hn (by simpa using hv) (by omega) (fun k _ _=>oH (n:=k+1) (.inl rfl) (by omega));exact c.BP (E:=fun _ w'=>On W0 L' w') (.inr (.inl ⟨_,hr,h3▸hO⟩)) hw hd rfl (fun v' w' h'=>k w' h' v')
theorem X.al[c:SR P N ops R]{t:Nat}{l:List Value}[z:r8 P t l](H:On W0 L w)(k:∀b w',On W0 (aX b l t::L) w'→R rest (cP env d (.pointer (some ⟨b,0,none⟩))) w')(hw:Region.wanted ⟨d,.alloc t,ty,pos,af,g⟩ (aU ops env)=true:=by rfl)(hd:iN N d=true:=by rfl):R (⟨d,.alloc t,ty,pos,af,g⟩::rest) env w:=
 let⟨_,hZ,hz⟩:=z.h
 c.BP (bR H hZ hz) hw hd rfl (by rintro v w' ⟨b,rfl,h⟩;exact k b w' h)
theorem X.bx[c:SR P N ops R]{t:Nat}{l:List Value}(h:cN env x=.agg l.toArray)(H:On W0 L w)(k:∀b w',On W0 (aX b l t::L) w'→R rest (cP env d (.pointer (some ⟨b,0,none⟩))) w')(hw:Region.wanted ⟨d,.box t x,ty,pos,af,g⟩ (aU ops env)=true:=by rfl)(hd:iN N d=true:=by rfl):R (⟨d,.box t x,ty,pos,af,g⟩::rest) env w:=c.BP (fc (l:=l) H h rfl) hw hd rfl (by rintro v w' ⟨b,rfl,h⟩;exact k b w' h)
theorem X.b1[c:SR P N ops R]{t:Nat}{v:Value}(h:cN env x=v)(hv:v.oneCell'=true)(H:On W0 L w)(k:∀b w',On W0 (aX b [v] t::L) w'→R rest (cP env d (.pointer (some ⟨b,0,none⟩))) w')(hw:Region.wanted ⟨d,.box t x,ty,pos,af,g⟩ (aU ops env)=true:=by rfl)(hd:iN N d=true:=by rfl):R (⟨d,.box t x,ty,pos,af,g⟩::rest) env w:=c.BP (fc (l:=[v]) H h (tg hv)) hw hd rfl (by rintro v w' ⟨b,rfl,h⟩;exact k b w' h)
theorem X.v[c:SR P N ops R]{v:Value}(hr:∀w',(execOp (cN env) o).run P w'=.ok (.value v) w')(k:R rest (cP env o.dst v) w)(hw:Region.wanted o (aU ops env)=true:=by rfl)(hd:iN N o.dst=true:=by rfl)(he:uC o=false:=by rfl):R (o::rest) env w:=c.val hr hw hd he k
theorem X.e[c:SR P N ops R]{E:Value→World→Prop}(hE:nr P (cN env) o w E)(k:∀v w',E v w'→R rest (cP env o.dst v) w')(hw:Region.wanted o (aU ops env)=true:=by rfl)(hd:iN N o.dst=true:=by rfl)(he:uC o=true:=by rfl):R (o::rest) env w:=c.BP hE hw hd he k
theorem X.q[c:SR P N ops R]{p:Prop}[Decidable p](hr:∀w',(execOp (cN env) o).run P w'=.ok (.value (.bool (decide p))) w')(kT:p→R rest (cP env o.dst (.bool true)) w)(kF:¬p→R rest (cP env o.dst (.bool false)) w)(hw:Region.wanted o (aU ops env)=true:=by rfl)(hd:iN N o.dst=true:=by rfl)(he:uC o=false:=by rfl):R (o::rest) env w:=by
 by_cases hp:p
 · exact c.val (fun w'=>by rw[hr w',decide_eq_true hp]) hw hd he (kT hp)
 exact c.val (fun w'=>by rw[hr w',decide_eq_false hp]) hw hd he (kF hp)
theorem X.b[c:SR P N ops R]{b:Bool}(hr:∀w',(execOp (cN env) o).run P w'=.ok (.value (.bool b)) w')(kT:b=true→R rest (cP env o.dst (.bool true)) w)(kF:b=false→R rest (cP env o.dst (.bool false)) w)(hw:Region.wanted o (aU ops env)=true:=by rfl)(hd:iN N o.dst=true:=by rfl)(he:uC o=false:=by rfl):R (o::rest) env w:=by
 cases b with
 |true=>exact c.val hr hw hd he (kT rfl)
 |false=>exact c.val hr hw hd he (kF rfl)
end
theorem go {A B : Prop} (q : B) (f : B → A := by
 have iQ:=‹On _ _ _›;intro q_
 repeat (first
   |refine W.region ?_|refine W.seq ?_|refine W.skip ?_|refine W.block ?_|refine W.exit ?_|refine W.label ?_|refine W.scope ?_
   |refine X.m ?_|refine X.a ?_|refine WL.nil ?_|refine X.fa rfl ?_|refine X.lo iQ rfl ?_|refine X.n rfl ?_|refine X.ex rfl rfl ?_|refine X.s ?_
   | refine WD.nil ?_ | refine X.ld iQ rfl ?_ | refine X.lc rfl (On.aS iQ rfl) ?_ | refine X.fv rfl rfl ?_ | refine X.ln rfl ?_ | refine X.fo rfl ?_)
 exact q_) : A := f q
theorem gw {A B : Prop} (q : B) (f : B → A := by
 have iQ:=‹On _ _ _›;intro q_
 repeat (first
   |refine X.m ?_|refine X.a ?_|refine WL.nil ?_|refine X.fa rfl ?_|refine X.lo iQ rfl ?_|refine X.n rfl ?_|refine X.ex rfl rfl ?_|refine X.s ?_
   | refine WD.nil ?_ | refine X.ld iQ rfl ?_ | refine X.lc rfl (On.aS iQ rfl) ?_ | refine X.fv rfl rfl ?_ | refine X.ln rfl ?_ | refine X.fo rfl ?_)
 exact q_) : A := f q
theorem gs {A B : Prop} (q : B) (f : B → A := by
 have iQ:=‹On _ _ _›;intro q_
 repeat (first
   |refine W.region ?_|refine W.seq ?_|refine W.skip ?_|refine W.block ?_|refine W.exit ?_|refine W.label ?_|refine W.scope ?_
   |refine X.m ?_|refine X.a ?_|refine WL.nil ?_|refine X.fa rfl ?_|refine X.lo iQ rfl ?_|refine X.n rfl ?_|refine X.ex rfl rfl ?_|refine X.s ?_
   | refine WD.nil ?_ | refine X.ld iQ rfl ?_ | refine X.lc rfl (On.aS iQ rfl) ?_ | refine X.fv rfl rfl ?_ | refine X.ln rfl ?_ | refine X.fo rfl ?_)
 first
 |exact X.st (v:=.int _ _) iQ rfl rfl rfl q_
 |exact X.st (v:=.slice _ _ _) iQ rfl rfl rfl q_
 |exact X.st (v:=.pointer _) iQ rfl rfl rfl q_
 |exact X.st (v:=.bool _) iQ rfl rfl rfl q_
 |exact X.st (v:=.map _) iQ rfl rfl rfl q_
 |exact X.st (v:=.string _) iQ rfl rfl rfl q_
 | exact X.sn iQ rfl rfl rfl rfl q_) : A := f q
theorem gb {A B : Prop} (q : B) (f : B → A := by
 have iQ:=‹On _ _ _›;intro q_
 repeat (first
   |refine W.region ?_|refine W.seq ?_|refine W.skip ?_|refine W.block ?_|refine W.exit ?_|refine W.label ?_|refine W.scope ?_
   |refine X.m ?_|refine X.a ?_|refine WL.nil ?_|refine X.fa rfl ?_|refine X.lo iQ rfl ?_|refine X.n rfl ?_|refine X.ex rfl rfl ?_|refine X.s ?_
   | refine WD.nil ?_ | refine X.ld iQ rfl ?_ | refine X.lc rfl (On.aS iQ rfl) ?_ | refine X.fv rfl rfl ?_ | refine X.ln rfl ?_ | refine X.fo rfl ?_)
 first
 |exact X.al iQ q_
 |exact X.bx rfl iQ q_
 |exact X.b1 (v:=.slice _ _ _) rfl rfl iQ q_
 |exact X.b1 (v:=.int _ _) rfl rfl iQ q_
 |exact X.b1 (v:=.pointer _) rfl rfl iQ q_
 |exact X.b1 (v:=.map _) rfl rfl iQ q_
 |exact X.b1 (v:=.bool _) rfl rfl iQ q_
 |exact X.b1 (v:=.string _) rfl rfl iQ q_
 | exact X.b1 (v := .func _ _ _) rfl rfl iQ q_) : A := f q
end Go.Sl
namespace Go.Sl
open Go
section
variable{P:Program}{N:Nat}{ops:Array Oper}{K:Env→World→Prop}{env:Env}{w:World}{rest:List Oper}{o:Oper}{x:Operand}{d:Option Nat}{ty:TypeId}{pos:String}{af:Array Edge}{g:Option (Nat×Bool)}
theorem WL.v{v:Value}{w':World}(hr:(execOp (cN env) o).run P w=.ok (.value v) w')(k:WL P N ops K rest (cP env o.dst v) w')(hw:Region.wanted o (aU ops env)=true:=by rfl)(hd:iN N o.dst=true:=by rfl):WL P N ops K (o::rest) env w:=WL.val hr hw hd k
theorem WL.e{R:Value→World→Prop}(he:nr P (cN env) o w R)(k:∀v w',R v w'→WL P N ops K rest (cP env o.dst v) w')(hw:Region.wanted o (aU ops env)=true:=by rfl)(hd:iN N o.dst=true:=by rfl):WL P N ops K (o::rest) env w:=WL.BP he hw hd k
theorem WL.s(k:WL P N ops K rest (cP env o.dst undef) w)(hw:Region.wanted o (aU ops env)=false:=by rfl)(hd:iN N o.dst=true:=by rfl):WL P N ops K (o::rest) env w:=WL.skip hw hd k
theorem WL.m(k:WL P N ops K rest (cP env d (cN env x)) w)(hw:Region.wanted ⟨d,.move x,ty,pos,af,g⟩ (aU ops env)=true:=by rfl)(hd:iN N d=true:=by rfl):WL P N ops K (⟨d,.move x,ty,pos,af,g⟩::rest) env w:=WL.val run_move hw hd k
theorem WL.a(k:WL P N ops K rest (cP env d (cN env x)) w)(hw:Region.wanted ⟨d,.assign x,ty,pos,af,g⟩ (aU ops env)=true:=by rfl)(hd:iN N d=true:=by rfl):WL P N ops K (⟨d,.assign x,ty,pos,af,g⟩::rest) env w:=WL.val run_assign hw hd k
theorem WL.n{a:Addr}(h:cN env x=.pointer (some a))(k:WL P N ops K rest (cP env d (.pointer (some a))) w)(hw:Region.wanted ⟨d,.nilCheck x,ty,pos,af,g⟩ (aU ops env)=true:=by rfl)(hd:iN N d=true:=by rfl):WL P N ops K (⟨d,.nilCheck x,ty,pos,af,g⟩::rest) env w:=WL.val (jv h) hw hd k
theorem WL.f{s fi n b o:Nat}(off:Nat){fs:Array Field}{f:Field}(hU:P.underlying s=some (.struct fs))(hf:fs[fi]? =some f)(hS:∀w,(sizeOf f.type).run P w=.ok (n+1) w)(h:cN env x=.pointer (some ⟨b,o,none⟩))(ho:f.offset=off)(k:WL P N ops K rest (cP env d (.pointer (some ⟨b,o+off,none⟩))) w)(hw:Region.wanted ⟨d,.fieldAddr s x fi,ty,pos,af,g⟩ (aU ops env)=true:=by rfl)(hd:iN N d=true:=by rfl):WL P N ops K (⟨d,.fieldAddr s x fi,ty,pos,af,g⟩::rest) env w:=WL.val (fm off hU hf hS h ho) hw hd k
theorem WL.l{t:TypeId}{a:Addr}{v:Value}(hA:∀w,(isAgg t).run P w=.ok false w)(h:cN env x=.pointer (some a))(hc:w.cell? a=some v)(k:WL P N ops K rest (cP env d v) w)(hw:Region.wanted ⟨d,.load t x,ty,pos,af,g⟩ (aU ops env)=true:=by rfl)(hd:iN N d=true:=by rfl):WL P N ops K (⟨d,.load t x,ty,pos,af,g⟩::rest) env w:=WL.val (jw hA h hc) hw hd k
theorem WL.pt{c a b:Operand}(k:WL P N ops K rest (cP env d (cN env a)) w)(hc:cN env c=.bool true:=by rfl)(hw:Region.wanted ⟨d,.pick c a b,ty,pos,af,g⟩ (aU ops env)=true:=by rfl)(hd:iN N d=true:=by rfl):WL P N ops K (⟨d,.pick c a b,ty,pos,af,g⟩::rest) env w:=WL.val (kj hc) hw hd k
theorem WL.pf{c a b:Operand}(k:WL P N ops K rest (cP env d (cN env b)) w)(hc:cN env c=.bool false:=by rfl)(hw:Region.wanted ⟨d,.pick c a b,ty,pos,af,g⟩ (aU ops env)=true:=by rfl)(hd:iN N d=true:=by rfl):WL P N ops K (⟨d,.pick c a b,ty,pos,af,g⟩::rest) env w:=WL.val (lP hc) hw hd k
theorem WL.z(k:K (cP env d (cN env x)) w)(hw:Region.wanted ⟨d,.assign x,ty,pos,af,g⟩ (aU ops env)=true:=by rfl)(hd:iN N d=true:=by rfl):WL P N ops K [⟨d,.assign x,ty,pos,af,g⟩] env w:=WL.val run_assign hw hd (WL.nil k)
theorem WL.q{p:Prop}[Decidable p](hr:(execOp (cN env) o).run P w=.ok (.value (.bool (decide p))) w)(kT:p→WL P N ops K rest (cP env o.dst (.bool true)) w)(kF:¬p→WL P N ops K rest (cP env o.dst (.bool false)) w)(hw:Region.wanted o (aU ops env)=true:=by rfl)(hd:iN N o.dst=true:=by rfl):WL P N ops K (o::rest) env w:=WL.dec hr hw hd kT kF
theorem WL.c{W0:World}{L:List aC}{s fi n b o t:Nat}{l:List Value}{e:Nat}{fr:Nat×Nat}{v:Value}{y:Operand}{d2:Option Nat}{ty2:TypeId}{aaK:String}{af2:Array Edge}{g2:Option (Nat×Bool)}(off:Nat){fs:Array Field}{f:Field}(hU:P.underlying s=some (.struct fs))(hf:fs[fi]? =some f)(hS:∀w,(sizeOf f.type).run P w=.ok (n+1) w)(h:cN env x=.pointer (some ⟨b,o,none⟩))(hA:∀w,(isAgg t).run P w=.ok false w)(H:On W0 L w)[i:dQ L b l e fr](hl:l[o+off]? =some v)(k:WL P N ops K rest (cP (cP env d (.pointer (some ⟨b,o+off,none⟩))) d2 v) w)
   (ho:f.offset=off:=by rfl) (hx:cN (cP env d (.pointer (some ⟨b,o+off,none⟩))) y=.pointer (some ⟨b,o+off,none⟩):=by rfl) (hw:Region.wanted ⟨d,.fieldAddr s x fi,ty,pos,af,g⟩ (aU ops env)=true:=by rfl) (hd:iN N d=true:=by rfl) (NQ:Region.wanted ⟨d2,.load t y,ty2,aaK,af2,g2⟩ (aU ops (cP env d (.pointer (some ⟨b,o+off,none⟩))))=true:=by rfl) (Ss:iN N d2=true:=by rfl):WL P N ops K (⟨d,.fieldAddr s x fi,ty,pos,af,g⟩::⟨d2,.load t y,ty2,aaK,af2,g2⟩::rest) env w:=WL.val (fm off hU hf hS h ho) hw hd (WL.val (jw hA hx (H.aS hl)) NQ Ss k)
end
section
variable{P:Program}{N:Nat}{env:Env}{w:World}{Q:Exit→Env→World→Prop}
theorem W.cs{c:Operand}{x:Code}(h:Q .normal env w)(hc:cN env c=.bool false:=by rfl):W P N (.cond c x .skip) Q env w:=W.zU hc (W.skip h)
theorem W.cf{c:Operand}{x y:Code}(h:W P N y Q env w)(hc:cN env c=.bool false:=by rfl):W P N (.cond c x y) Q env w:=W.zU hc h
theorem W.ct{c:Operand}{x y:Code}(h:W P N x Q env w)(hc:cN env c=.bool true:=by rfl):W P N (.cond c x y) Q env w:=W.zT hc h
theorem W.sr{id:Nat}{l:List Oper}{y:Code}(h:WL P N l.toArray (fun eZ w'=>Vy P N y Q .normal eZ w') l env w):W P N (.seq (.region id l.toArray false) y) Q env w:=W.seq (W.region h)
end
section
variable{P:Program}{N:Nat}{ops:Array Oper}{K:Env→World→Prop}{env:Env}{w:World}{T:mh}{fuel:Nat}{aM:Array Bool}{x:Operand}{d:Option Nat}{ty:TypeId}{pos:String}{af:Array Edge}{g:Option (Nat×Bool)}
theorem WT.p(i:Nat){oi:Oper}{v:Value}(hi:ops[i]? =some oi)(hv:∀w',(execOp (cN env) oi).run P w'=.ok (.value v) w')(k:WT P N ops K fuel T (aM.setIfInBounds i true) (cP env oi.dst v) w)
   (hb:kg ops aM i=true:=by kernel_rfl) (hw:Region.wanted oi (aU ops env)=true:=by rfl) (hd:iN N oi.dst=true:=by rfl):WT P N ops K (fuel+1) T aM env w:=WT.pure i hi hb hv hw hd k
theorem WT.m(i:Nat)(hi:ops[i]? =some ⟨d,.move x,ty,pos,af,g⟩)(k:WT P N ops K fuel T (aM.setIfInBounds i true) (cP env d (cN env x)) w)
   (hb:kg ops aM i=true:=by kernel_rfl) (hw:Region.wanted ⟨d,.move x,ty,pos,af,g⟩ (aU ops env)=true:=by rfl) (hd:iN N d=true:=by rfl):WT P N ops K (fuel+1) T aM env w:=WT.pure i hi hb (fun _=>run_move) hw hd k
theorem WT.a(i:Nat)(hi:ops[i]? =some ⟨d,.assign x,ty,pos,af,g⟩)(k:WT P N ops K fuel T (aM.setIfInBounds i true) (cP env d (cN env x)) w)
   (hb:kg ops aM i=true:=by kernel_rfl) (hw:Region.wanted ⟨d,.assign x,ty,pos,af,g⟩ (aU ops env)=true:=by rfl) (hd:iN N d=true:=by rfl):WT P N ops K (fuel+1) T aM env w:=WT.pure i hi hb (fun _=>run_assign) hw hd k
theorem WT.n(i:Nat){a:Addr}(hi:ops[i]? =some ⟨d,.nilCheck x,ty,pos,af,g⟩)(h:cN env x=.pointer (some a))(k:WT P N ops K fuel T (aM.setIfInBounds i true) (cP env d (.pointer (some a))) w)
   (hb:kg ops aM i=true:=by kernel_rfl) (hw:Region.wanted ⟨d,.nilCheck x,ty,pos,af,g⟩ (aU ops env)=true:=by rfl) (hd:iN N d=true:=by rfl):WT P N ops K (fuel+1) T aM env w:=WT.pure i hi hb (fun _=>jv h) hw hd k
theorem WT.f(i:Nat){s fi n b o:Nat}(off:Nat){fs:Array Field}{f:Field}(hi:ops[i]? =some ⟨d,.fieldAddr s x fi,ty,pos,af,g⟩)(hU:P.underlying s=some (.struct fs))(hf:fs[fi]? =some f)(hS:∀w,(sizeOf f.type).run P w=.ok (n+1) w)(h:cN env x=.pointer (some ⟨b,o,none⟩))(ho:f.offset=off)(k:WT P N ops K fuel T (aM.setIfInBounds i true) (cP env d (.pointer (some ⟨b,o+off,none⟩))) w)
   (hb:kg ops aM i=true:=by kernel_rfl) (hw:Region.wanted ⟨d,.fieldAddr s x fi,ty,pos,af,g⟩ (aU ops env)=true:=by rfl) (hd:iN N d=true:=by rfl):WT P N ops K (fuel+1) T aM env w:=WT.pure i hi hb (fun _=>fm off hU hf hS h ho) hw hd k
theorem WT.l(i:Nat){t:TypeId}{ad:Addr}{v:Value}(hi:ops[i]? =some ⟨d,.load t x,ty,pos,af,g⟩)(hA:∀w,(isAgg t).run P w=.ok false w)(h:cN env x=.pointer (some ad))(hc:w.cell? ad=some v)(k:WT P N ops K fuel ((i,fun w=>w.cell? ad=some v)::T) (aM.setIfInBounds i true) (cP env d v) w)
   (hb:kg ops aM i=true:=by kernel_rfl) (hw:Region.wanted ⟨d,.load t x,ty,pos,af,g⟩ (aU ops env)=true:=by rfl) (hd:iN N d=true:=by rfl):WT P N ops K (fuel+1) T aM env w:=WT.VB i hi hb hA h hc hw hd k
theorem WT.e(i:Nat){oi:Oper}{R:Value→World→Prop}(mask:List Bool)(hi:ops[i]? =some oi)(he:nr P (cN env) oi w R)(k:∀v w',R v w'→jt (cX mask T) w'∧WT P N ops K fuel (cX mask T) (aM.setIfInBounds i true) (cP env oi.dst v) w')
   (hr:Region.ready .any ops aM=[i]:=by kernel_rfl) (hT:ei ops i T=cX mask T:=by kernel_rfl) (hw:Region.wanted oi (aU ops env)=true:=by rfl) (hd:iN N oi.dst=true:=by rfl):WT P N ops K (fuel+1) T aM env w:=WT.BP i mask hi hr hT he hw hd k
theorem WT.dn(h:K env w)(hr:Region.ready .any ops aM=[]:=by kernel_rfl):WT P N ops K fuel T aM env w:=WT.done hr h
end
end Go.Sl
