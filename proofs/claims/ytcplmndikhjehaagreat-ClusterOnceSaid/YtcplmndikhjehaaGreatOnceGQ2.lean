/-
  Texts of a proof as one.
-/
import Derived.Test.YtcplmndikhjehaaGreatOnceGQ1
import Derived.Laws.MakeOwn
import Derived.Laws.Small
import Derived.Maps.RangeRun
import Derived.Laws.Concat
import Derived.Lib.Overlaps
import Derived.Laws.Externs
import Derived.Test.YtcplmndikhjehaaGreatChecked
import Derived.Lib.SlKeysI
import Derived.Maps.Own
import Derived.OwnWalk
import Derived.RangeFuncSeq
import Derived.Shelf.SlIterI.Nil
import Derived.Shelf.SlIterI.Sorted
import Derived.Shelf.SortM.Plain
import Derived.Shelf.SortM.SortNone
set_option linter.unusedVariables false
set_option linter.unusedSimpArgs false
namespace Go.Sl
open Go
section
variable{P:Program}{w:World}{ρ:Operand→Value}{d:Option Nat}{ty:TypeId}{pos:String}{af:Array Edge}{g:Option (Nat×Bool)}
theorem fC{s t:TypeId}{x:Operand}{k j:IntKind}{n:Int}{ds:TypeDesc}(hs:P.underlying s=some ds)(ht:P.underlying t=some (.int k))(hx:ρ x=.int j n)(h:k.min≤n)(h':n≤k.max):
   (execOp ρ ⟨d,.convert s t x,ty,pos,af,g⟩).run P w=.ok (.value (.int k n)) w:=by
 rw[ko hs ht hx,oI _ h h']
theorem jb{t yt:TypeId}{x y:Operand}{k ky:IntKind}{m j:Nat}(hx:ρ x=.int k (m:Int))(hy:ρ y=.int ky (j:Int))(hj:j≤k.bits):
   (execOp ρ ⟨d,.binOp .shr t x y yt,ty,pos,af,g⟩).run P w=.ok (.value (.int k ((m / 2^j:Nat):Int))) w:=by
 rw[S1 hx hy (by omega)];rw[Int.toNat_natCast,Nat.min_eq_left hj]
 have:(m:Int).fdiv (2^j)=((m / 2^j:Nat):Int):=by
   rw[Int.fdiv_eq_ediv_of_nonneg _ (Int.pow_nonneg (by omega))];rw[Int.natCast_ediv,Int.natCast_pow];rfl
 rw[this]
theorem nH(b m:Nat)(h:m<2^b):(BitVec.ofInt b (m:Int)).toNat=m:=by
 rw[BitVec.toNat_ofInt];have:((m:Int) % ((2^b:Nat):Int))=(m:Int):=Int.emod_eq_of_lt (by omega) (by exact_mod_cast h);rw[this];simp
theorem pQ(k:IntKind)(m:Nat)(h:(m:Int)≤k.max):m<2^k.bits:=by
 cases k<;>simp[IntKind.max,IntKind.bits] at* <;>omega
theorem Ai{t yt:TypeId}{x y:Operand}{k:IntKind}{m n:Nat}(hx:ρ x=.int k (m:Int))(hy:ρ y=.int k (n:Int))(hm:(m:Int)≤k.max)(hn:(n:Int)≤k.max):
   (execOp ρ ⟨d,.binOp .and t x y yt,ty,pos,af,g⟩).run P w=.ok (.value (.int k ((m&&&n:Nat):Int))) w:=by
 rw[SY hx hy];rw[BitVec.toNat_and,nH _ _ (pQ _ _ hm),nH _ _ (pQ _ _ hn)];have h1:m&&&n≤n:=Nat.and_le_right;have h0:k.min≤0:=by cases k<;>decide
 rw[oI _ (by omega) (by omega)]
theorem jc{t yt:TypeId}{x y:Operand}{k:IntKind}{m n:Nat}(j:Nat)(hx:ρ x=.int k (m:Int))(hy:ρ y=.int k (n:Int))(hm:(m:Int)≤k.max)(hn:(n:Int)≤k.max)(hj:n=2^j - 1):
   (execOp ρ ⟨d,.binOp .and t x y yt,ty,pos,af,g⟩).run P w=.ok (.value (.int k ((m % 2^j:Nat):Int))) w:=by
 rw[Ai hx hy hm hn,hj,Nat.and_two_pow_sub_one_eq_mod]
theorem vz{s t:TypeId}{x:Operand}{j:IntKind}{n:Nat}{ds:TypeDesc}(hs:P.underlying s=some ds)(ht:P.underlying t=some (.int .u8))(hx:ρ x=.int j (n:Int)):
   (execOp ρ ⟨d,.convert s t x,ty,pos,af,g⟩).run P w=.ok (.value (.int .u8 ((UInt8.ofNat n).toNat:Int))) w:=by
 rw[ko hs ht hx]
 have:IntKind.wrap .u8 (n:Int)=(((UInt8.ofNat n).toNat:Nat):Int):=by
   rw[UInt8.toNat_ofNat'];simp[IntKind.wrap,IntKind.bits,IntKind.signed]
 rw[this]
theorem Oi{k:IntKind}{a:Int}(h:(Lit.int k a).wf=true)(hk:k.min=0):∃t:Nat,a=(t:Int)∧(t:Int)≤k.max:=by
 have h':k.min≤a∧a≤k.max:=by simpa [Lit.wf] using h
 obtain⟨t,rfl⟩:=Int.eq_ofNat_of_zero_le (show 0≤a by omega);exact⟨t,rfl,h'.2⟩
theorem dJ{bs:List UInt8}{k:Nat}{x:UInt8}(h:bs[k]? =some x):((aL bs).drop (k*1)).take 1=[.int .u8 (x.toNat:Int)]:=by
 rw[Nat.mul_one];have:(aL bs)[k]? =some (.int .u8 (x.toNat:Int)):=by simp[aL,tY,h]
 obtain⟨hl,he⟩:=List.getElem?_eq_some_iff.1 this;rw[List.drop_eq_getElem_cons hl,List.take_succ_cons,List.take_zero,he]
end
end Go.Sl
namespace Go.Sl
open Go
section
variable{P:Program}{W0 w:World}{L:List aC}{ρ:Operand→Value}{d:Option Nat}{ty:TypeId}{pos:String}{af:Array Edge}{g:Option (Nat×Bool)}
theorem Tc(z:Value)(n:Nat):(madeCells #[z] n).toList=List.replicate n z:=by
 apply List.ext_getElem
 · simp[madeCells]
 intro i h1 h2;simp[madeCells,Nat.mod_one]
theorem kR{t e n bytes:Nat}{kl kc:IntKind}{x y:Operand}{z:Value}{i:TypeInfo}(H:On W0 L w)(hx:ρ x=.int kl (n:Int))(hy:ρ y=.int kc (n:Int))
   (hU:P.underlying t=some (.slice e)) (hI:P.info? e=some i) (CH:i.size=1) (S3:i.bytes=bytes) (hz:i.zero=some z) (hzc:z.cells=#[z]) (hb:bytes*n≤281474976710656) (hm:n≤maxLen):
   nr P ρ ⟨d,.makeSlice t x y,ty,pos,af,g⟩ w (fun v w'=>∃b,v=.slice (some ⟨b,0,none⟩) n n∧On W0 (Own 1 (.slice (some ⟨b,0,none⟩) n n) n (List.replicate n z)::L) w'):=by
 have yd:=aG
 have hb':(i.bytes:Int)*(n:Int)≤281474976710656:=by
   have:((i.bytes*n:Nat):Int)≤281474976710656:=by rw[S3];omega
   rwa [Int.natCast_mul] at this
 have hr:=run_make (P:=P) w t e i z hU hI hz kl kc n n (by omega) (Int.le_refl _) hb' (by omega);simp only[Int.toNat_natCast,CH,Nat.mul_one,hzc] at hr;refine .inl ⟨_,_,by simp only[execOp,hx,hy,Sem.run_bind,hr,Result.andThen_ok,Sem.run_pure];rfl,w.heap.size,rfl, ?_⟩;have hO:=H.alloc (.cells (madeCells #[z] n) e)
 have Ip:On W0 (aX w.heap.size (List.replicate n z) e::L) (w.alloc (.cells (madeCells #[z] n) e)):=by
   rw[←Tc];exact hO
 exact Own.CL Ip (by simp) hm
theorem kS{t b o k size n c:Nat}{x y:Operand}{v:Value}{xs:List Value}(H:On W0 (Own size (.slice (some ⟨b,o,none⟩) n c) n xs::L) w)(hS:∀w,(sizeOf t).run P w=.ok 1 w)(h:ρ x=.pointer (some ⟨b,o+k,none⟩))(hy:ρ y=v)(hv:v.oneCell'=true)
   (hk:k<n*size):nr P ρ ⟨d,.store t x y,ty,pos,af,g⟩ w (fun _ w'=>On W0 (Own size (.slice (some ⟨b,o,none⟩) n c) n (xs.set k v)::L) w'):=by
 obtain⟨eC,hO⟩:=Own.mT H;rcases hO with⟨rfl,ao,B3⟩|⟨gb,off,cap,cur,e,fr,B3,vg,rz,fe,rA,iT,Hb⟩
 · omega
 simp only[Value.slice.injEq,Option.some.injEq,Addr.mk.injEq] at B3;obtain⟨⟨rfl,rfl,_⟩,_,rfl⟩:=B3;have afh:n*size≤c*size:=Nat.mul_le_mul_right _ vg;have hf:=oH iT (k:=o+k) (by omega);have h1:=qH (P:=P) (ρ:=ρ) (d:=d) (ty:=ty) (pos:=pos) (af:=af) (g:=g) hS h hy hv (Hb.block 0 rfl) (by rw[Nat.ble_eq];omega) hf;refine .inr (.inl ⟨_,h1, ?_⟩);have Ip:=Hb.zW 0 rfl (o+k) v;refine Own.nA (e:=e) (fr:=fr) Ip (by rw[List.length_set];exact eC) vg rz (by rw[List.length_set];exact fe) ?_ (by rw[List.length_set];exact iT);rw[List.drop_set,if_neg (by omega),show o+k - o=k by omega,List.take_set,rA]
theorem pR{t yt:TypeId}{x y:Operand}{k:IntKind}{m n:Nat}(hx:ρ x=.int k (m:Int))(hy:ρ y=.int k (n:Int))(hm:(m:Int)≤k.max)(hn:(n:Int)≤k.max)(hr:((m^^^n:Nat):Int)≤k.max):
   (execOp ρ ⟨d,.binOp .xor t x y yt,ty,pos,af,g⟩).run P w=.ok (.value (.int k ((m^^^n:Nat):Int))) w:=by
 rw[SZ hx hy,BitVec.toNat_xor,nH _ _ (pQ _ _ hm),nH _ _ (pQ _ _ hn)];have h0:k.min≤0:=by cases k<;>decide
 rw[oI _ (by omega) hr]
theorem Kp{t yt:TypeId}{x y:Operand}{k:IntKind}{m n:Nat}(hx:ρ x=.int k (m:Int))(hy:ρ y=.int k (n:Int))(hm:(m:Int)≤k.max)(hn:(n:Int)≤k.max)(hr:((m|||n:Nat):Int)≤k.max):
   (execOp ρ ⟨d,.binOp .or t x y yt,ty,pos,af,g⟩).run P w=.ok (.value (.int k ((m|||n:Nat):Int))) w:=by
 rw[WH hx hy,BitVec.toNat_or,nH _ _ (pQ _ _ hm),nH _ _ (pQ _ _ hn)];have h0:k.min≤0:=by cases k<;>decide
 rw[oI _ (by omega) hr]
theorem mq{t yt:TypeId}{x y:Operand}{k ky:IntKind}{m j:Nat}(hx:ρ x=.int k (m:Int))(hy:ρ y=.int ky (j:Int))(hj:j≤k.bits)(hr:((m*2^j:Nat):Int)≤k.max):
   (execOp ρ ⟨d,.binOp .shl t x y yt,ty,pos,af,g⟩).run P w=.ok (.value (.int k ((m*2^j:Nat):Int))) w:=by
 rw[S0 hx hy (by omega),Int.toNat_natCast,Nat.min_eq_left hj];have h0:k.min≤0:=by cases k<;>decide
 have e:(m:Int)*2^j=((m*2^j:Nat):Int):=by rw[Int.natCast_mul,Int.natCast_pow];rfl
 rw[e,oI _ (by omega) hr]
theorem vA{t yt:TypeId}{x y:Operand}{k:IntKind}{m n:Nat}(hx:ρ x=.int k (m:Int))(hy:ρ y=.int k (n:Int))(h:n≤m)(hm:(m:Int)≤k.max):
   (execOp ρ ⟨d,.binOp .sub t x y yt,ty,pos,af,g⟩).run P w=.ok (.value (.int k ((m - n:Nat):Int))) w:=by
 have h0:k.min≤0:=by cases k<;>decide
 rw[iC hx hy,←Int.natCast_sub h,oI _ (by omega) (by omega)]
theorem cT{t yt:TypeId}{x y:Operand}{k:IntKind}{m n:Nat}(hx:ρ x=.int k (m:Int))(hy:ρ y=.int k (n:Int))(hm:((m+n:Nat):Int)≤k.max):
   (execOp ρ ⟨d,.binOp .add t x y yt,ty,pos,af,g⟩).run P w=.ok (.value (.int k ((m+n:Nat):Int))) w:=by
 have h0:k.min≤0:=by cases k<;>decide
 rw[eU hx hy,←Int.natCast_add,oI _ (by omega) (by omega)]
theorem vB{qK:Array TypeId}{x y:Operand}{k:IntKind}{a b:Int}(hx:ρ x=.int k a)(hy:ρ y=.int k b):
   (execOp ρ ⟨d,.call {callee:=.builtin .min,args:=#[x,y],argTypes:=qK},ty,pos,af,g⟩).run P w=.ok (.value (.int k (min a b))) w:=by
 simp[execOp,resolve,invoke,builtin,hx,hy,run_min_int2];split<;>omega
theorem Aj{qK:Array TypeId}{x y:Operand}{k:IntKind}{a b:Int}(hx:ρ x=.int k a)(hy:ρ y=.int k b):
   (execOp ρ ⟨d,.call {callee:=.builtin .max,args:=#[x,y],argTypes:=qK},ty,pos,af,g⟩).run P w=.ok (.value (.int k (max a b))) w:=by
 simp[execOp,resolve,invoke,builtin,hx,hy,run_max_int2];split<;>omega
theorem nI{env:Env}{x:Operand}{f:FuncId}{first captured:Array Value}{xs:List Operand}{qK:Array TypeId}{R:Value→World→Prop}(hx:cN env x=.func (.func f) first captured)(hf:∀args w,(callFunc f args).run P w=.ok (.enter f args) w)
   (hc:Calls P f (first++(xs.map (cN env)).toArray++captured) w (wU R)):nr P (cN env) ⟨d,.call {callee:=.value x,args:=xs.toArray,argTypes:=qK},ty,pos,af,g⟩ w R:=
 .inr (.inr ⟨f,_,w,LA hx hf,hc⟩)
theorem Ak{size q k k' c c':Nat}{a:Option Addr}:Builtin.firstCells size q (.slice a k c)=Builtin.firstCells size q (.slice a k' c'):=by cases a<;>rfl
theorem pS{cur ys:List Value}{off lo n:Nat}(h:lo+ys.length≤n)(h2:off+n≤cur.length):((cE cur (off+lo) ys).drop off).take n=cE ((cur.drop off).take n) lo ys:=by
 apply List.ext_getElem?;intro j;unfold cE;simp only[List.getElem?_take,List.getElem?_drop,List.getElem?_append,List.length_take,List.length_append,List.length_drop];by_cases hj:j<n
 · rw[if_pos hj]
   by_cases h1:j<lo
   · rw[if_pos (by omega),if_pos (by omega),if_pos (by omega),if_pos (by omega),if_pos (by omega),if_pos hj,if_pos h1]
   by_cases h3:j<lo+ys.length
   · rw[if_pos (by omega),if_neg (by omega),if_pos (by omega),if_neg (by omega)]
     congr 1;omega
   rw[if_neg (by omega),if_neg (by omega),if_pos (by omega)]
   congr 1;omega
 rw[if_neg hj,if_neg (by omega),if_neg (by omega)]
theorem Am{t e lo m n c c' k cy:Nat}{b o:Nat}{ay:Option Addr}{xs ys:List Value}{sx sy:Operand}{qK:Array TypeId}(H:On W0 (Own 1 (.slice (some ⟨b,o,none⟩) n c) n xs::L) w)(hs:ρ sx=.slice (some ⟨b,o+lo,none⟩) m c')(hy:ρ sy=.slice ay k cy)(C:Cells 1 (.slice ay k cy) k ys (hp w))
   (ht:qK[0]? =some t) (hU:P.underlying t=some (.slice e)) (hS:∀w,(sizeOf e).run P w=.ok 1 w) (Sr:lo+m≤n) (Of:∀u∈ys,u.oneCell'=true):
   nr P ρ ⟨d,.call {callee:=.builtin .copy,args:=#[sx,sy],argTypes:=qK},ty,pos,af,g⟩ w (fun v w'=>v=.int .i64 ((min k m:Nat):Int)∧On W0 (Own 1 (.slice (some ⟨b,o,none⟩) n c) n (cE xs lo (ys.take (min k m)))::L) w'):=by
 have yd:=aG;obtain⟨eC,hO⟩:=Own.mT H;rw[Nat.mul_one] at eC;have hyl:ys.length=k:=by have:=C.1;rw[Nat.mul_one] at this;exact this
 have hf:=fy (P:=P) (C.front (k:=min k m) (Nat.min_le_left _ _));rw[Nat.mul_one,Ak (k':=k) (c':=cy)] at hf;have S5:=D6 (P:=P) (w:=w) C;rcases hO with⟨rfl,ao,B3⟩|⟨gb,off,cap,cur,e',fr,B3,vg,rz,fe,rA,iT,Hb⟩
 · obtain rfl:m=0:=by omega
   obtain rfl:lo=0:=by omega
   have vu:xs=[]:=List.eq_nil_of_length_eq_zero eC;subst vu;simp only[Nat.min_zero,List.take_zero] at hf⊢;refine .inl ⟨.int .i64 0,w, ?_,rfl,by simpa [cE] using H⟩;simp[execOp,resolve,invoke,builtin,hs,hy,Builtin.copy_,ht,run_underlying hU,hS,S5,hf,storeCells,goInt]
 simp only[Value.slice.injEq,Option.some.injEq,Addr.mk.injEq] at B3;obtain⟨⟨rfl,rfl,_⟩,_,rfl⟩:=B3;rw[Nat.mul_one] at fe rA;have dW:(ys.take (min k m)).length=min k m:=by rw[List.length_take,hyl];omega
 have hmk:min k m≤m:=Nat.min_le_right _ _;obtain⟨w',ki,Ip⟩:=Hb.storeCells (P:=P) 0 rfl (o+lo) (ys.take (min k m)) (by omega) (fun u hu=>Of u (List.mem_of_mem_take hu)) (fun q h1 h2=>oH iT (by omega));have hkm:k≤maxLen:=by obtain⟨_,_,cap,hv,h1,h2,_⟩:=C;simp only[Value.slice.injEq] at hv;omega
 refine .inl ⟨.int .i64 ((min k m:Nat):Int),w', ?_,rfl, ?_⟩
 · have hg:goInt (Nat.min k m)=.int .i64 ((min k m:Nat):Int):=rfl
   simp[execOp,resolve,invoke,builtin,hs,hy,Builtin.copy_,ht,run_underlying hU,hS,S5,hf,ki,goInt]
 refine Own.nA (e:=e') (fr:=fr) Ip ?_ vg rz (by rw[cM (by omega),Nat.mul_one];exact fe) ?_ (by rw[cM (by omega)];exact iT)
 · rw[cM (by omega),Nat.mul_one];exact eC
 rw[Nat.mul_one,pS (by omega) (by omega),rA]
theorem Oj{n:Nat}:∀(vs:List (Nat×Value)),(∀p∈vs,p.1<n∧p.2.oneCell'=true)→fits ((List.range n).map fun i=>(i*1,1)) n vs:=by
 intro vs
 induction vs with
 |nil=>intro _;trivial
 | cons p vs ih=>
   obtain⟨i,v⟩:=p;intro h;obtain⟨h1,h2⟩:=h (i,v) (by simp);exact⟨⟨i*1,1,by simp[h1],by rw[tg h2];rfl,by omega⟩,ih fun p hp=>h p (List.mem_cons_of_mem _ hp)⟩
theorem Iw{n:Nat}:∀(vs pre rest:List Value),rest.length=vs.length→pre.length+vs.length=n→(∀v∈vs,v.oneCell'=true)→kP ((List.range n).map fun i=>(i*1,1)) (pre++rest) (List.zip (List.range' pre.length vs.length) vs)=pre++vs:=by
 intro vs
 induction vs with
 |nil=>intro pre rest h _ _;have:rest=[]:=List.eq_nil_of_length_eq_zero h;subst this;rfl
 | cons v vs ih=>
   intro pre rest hl hn h1;obtain⟨r,rest,rfl⟩:∃r aaL,rest=r::aaL:=by cases rest with|nil=>simp at hl|cons r rest=>exact⟨r,rest,rfl⟩
   simp only[List.length_cons] at hl hn⊢;rw[List.range'_succ,List.zip_cons_cons];show kP _ (cE (pre++r::rest) ((((List.range n).map fun i=>(i*1,1))[pre.length]?.getD (0,0)).1) v.cells.toList) _=_
   have e1:((List.range n).map fun i=>(i*1,1))[pre.length]? =some (pre.length,1):=by
     rw[List.getElem?_map,List.getElem?_range (by omega)];simp
   rw[e1,tg (h1 v (by simp))]
   have e2:cE (pre++r::rest) pre.length [v]=(pre++[v])++rest:=by
     unfold cE;rw[List.take_left,show pre.length+[v].length=(pre++[r]).length by simp,show pre++r::rest=(pre++[r])++rest by simp,List.drop_left]
   show kP _ (cE (pre++r::rest) pre.length [v]) _=_;rw[e2];have:=ih (pre++[v]) rest (by omega) (by simp;omega) (fun u hu=>h1 u (List.mem_cons_of_mem _ hu));rw[List.length_append] at this;simpa using this
theorem kq{t n e:Nat}{ps:List (Nat×Operand)}{z:Value}{out:List Value}(H:On W0 L w)(hU:P.underlying t=some (.slice e))(hS:∀w,(sizeOf e).run P w=.ok 1 w)(hZ:∀w,(zeroValue e).run P w=.ok z w)(hz:z.cells=#[z])
   (hn:n≤16777216) (hi:ps.map (·.1)=List.range n) (hv:ps.map (fun p=>ρ p.2)=out) (h1:out.all (·.oneCell')=true):
   nr P ρ ⟨d,.buildSlice t n ps.toArray,ty,pos,af,g⟩ w (fun v w'=>∃b,v=.slice (some ⟨b,0,none⟩) n n∧On W0 (Own 1 (.slice (some ⟨b,0,none⟩) n n) n out::L) w'):=by
 have r7:out.length=n:=by rw[←hv,List.length_map];have:=congrArg List.length hi;simpa using this
 have Su:∀v∈out,v.oneCell'=true:=by simpa using h1
 have hvs:ps.map (fun p=>(p.1,ρ p.2))=List.zip (List.range n) out:=by
   rw[←hi,←hv,List.zip_map']
 refine aZ (zl:=List.replicate n z) H hU hS hZ (by omega) ?_ rfl hvs (fun p hp=> ?_) ?_ ?_ (by omega) (by have:=aG;omega)
 · by_cases h0:n=0
   · subst h0;simp
   have:¬n*1=0:=by omega
   simp only[this,if_false,hz];apply Array.ext
   · simp
   intro i h1 h2;simp[Nat.mod_one]
 · have:=(List.of_mem_zip hp).1;simpa using this
 · rw[List.length_replicate]
   refine Oj _ fun p hp=> ?_;obtain⟨a,b⟩:=List.of_mem_zip hp;exact⟨by simpa using a,Su _ b⟩
 have:=Iw (n:=n) out [] (List.replicate n z) (by simp[r7]) (by simp[r7]) Su;rw[List.nil_append,List.nil_append,List.length_nil,r7,←List.range_eq_range'] at this;exact this
theorem FN{t:TypeId}{k k':IntKind}{a b:Int}(hU:P.underlying t=some (.int k'))(m:Nat):(Op.equalIn (m+1) t (.int k a) (.int k b)).run P w=.ok (a==b) w:=by
 simp[Op.equalIn,run_underlying hU]
end
end Go.Sl
namespace Go.Sl
open Go
section
variable{P:Program}{W0 w:World}{L:List aC}{ρ:Operand→Value}{d:Option Nat}{ty:TypeId}{pos:String}{af:Array Edge}{g:Option (Nat×Bool)}
theorem sd{b o lo hi c:Nat}(h1:lo≤hi)(h2:hi≤c):∃lo',sliced (some ⟨b,o,none⟩) lo hi c 1=.slice (some ⟨b,o+lo',none⟩) (hi - lo) (c - lo)∧(lo'=lo∨(hi - lo=0∧lo'=0)):=by
 unfold sliced;by_cases h:c=lo
 · exact⟨0,by simp[h],.inr ⟨by omega,rfl⟩⟩
 exact⟨lo,by simp[h,Addr.jU],.inl rfl⟩
theorem iP{t e size n c l:Nat}{kl:IntKind}{x y:Operand}{a:Option Addr}{v:Value}(hU:P.underlying t=some (.slice e))(hS:∀w,(sizeOf e).run P w=.ok size w)(hx:ρ x=.slice a n c)(hy:ρ y=.int kl l)(h1:l≤n)(hv:sliced a l n c size=v):
   (execOp ρ ⟨d,.slice t x (some y) none none,ty,pos,af,g⟩).run P w=.ok (.value v) w:=by rw[←hv];exact Aa hU hS hx hy h1
theorem nO{t e size n c l h:Nat}{kl kh:IntKind}{x y z:Operand}{a:Option Addr}{v:Value}(hU:P.underlying t=some (.slice e))(hS:∀w,(sizeOf e).run P w=.ok size w)(hx:ρ x=.slice a n c)(hy:ρ y=.int kl l)(hz:ρ z=.int kh h)(h1:l≤h)(h2:h≤c)(hv:sliced a l h c size=v):
   (execOp ρ ⟨d,.slice t x (some y) (some z) none,ty,pos,af,g⟩).run P w=.ok (.value v) w:=by rw[←hv];exact tj hU hS hx hy hz h1 h2
end
end Go.Sl
namespace Go.Sl
open Go
section
variable{P:Program}{W0 w:World}{L:List aC}{ρ:Operand→Value}{d:Option Nat}{ty:TypeId}{pos:String}{af:Array Edge}{g:Option (Nat×Bool)}
theorem D8{fn:Fn}{xs ys:List Operand}:(execOp ρ ⟨d,.makeFunc fn xs.toArray ys.toArray,ty,pos,af,g⟩).run P w=.ok (.value (.func fn (xs.map ρ).toArray (ys.map ρ).toArray)) w:=by
 simp[execOp,Instr.makeFunc]
theorem D9{t:Nat}{x y:Operand}{k:IntKind}{i:Nat}{s:ByteArray}{c:UInt8}(hU:P.underlying t=some .string)(hx:ρ x=.string s)(hy:ρ y=.int k (i:Int))(hc:s[i]? =some c):(execOp ρ ⟨d,.index t x y,ty,pos,af,g⟩).run P w=.ok (.value (.int .u8 (c.toNat:Int))) w:=by
 simp[execOp,Instr.index,run_underlying hU,hx,hy,asIntOf,hc]
end
end Go.Sl
namespace Go.Sl
open Go
abbrev KV:=Int×Value×Nat
def qV(kd:IntKind)(x:KV):MapEntry:={key:=.int kd x.1,val:=x.2.1,born:=x.2.2}
def jy(kd:IntKind)(kvs:List KV)(ck:Nat):Obj:=.map (kvs.map (qV kd)).toArray ck
def B5(kvs:List KV)(ck:Nat):Prop:=(kvs.map (·.1)).Nodup∧(kvs.map (·.2.2)).Nodup∧∀x∈kvs,x.2.2<ck
def bV(b:Nat)(kd:IntKind)(kvs:List KV)(ck:Nat):aC:=fun h=>B5 kvs ck∧h b=some (jy kd kvs ck)
def dL(kvs:List KV)(k:Int):Option Value:=(kvs.find? fun x=>x.1==k).map (·.2.1)
def iR(kvs:List KV)(k:Int)(v:Value)(ck:Nat):List KV:=if kvs.any (fun x=>x.1==k) then kvs.map fun x=>if x.1=k then(k,v,x.2.2) else x else kvs++[(k,v,ck)]
def fV(kvs:List KV)(k:Int)(ck:Nat):Nat:=if kvs.any (fun x=>x.1==k) then ck else ck+1
section
variable{P:Program}{W0 w:World}{L:List aC}{ρ:Operand→Value}{d:Option Nat}{ty:TypeId}{pos:String}{af:Array Edge}{g:Option (Nat×Bool)}
theorem qX{q kd:IntKind}{k:Int}:∀(kvs:List KV) (i:Nat),Instr.findNow (.int q) (.int kd k) (kvs.map (qV kd)) i=some ((kvs.findIdx? fun x=>x.1==k).bind fun j=>(kvs[j]?).map fun x=>(i+j,x.2.1)):=by
 intro kvs
 induction kvs with
 |nil=>intro i;rfl
 | cons x kvs ih=>
   intro i;rw[List.map_cons];unfold Instr.findNow;have hs:Instr.sameNow (.int q) (.int kd k) (qV kd x).key=some (k==x.1):=by simp[Instr.sameNow,qV]
   rw[hs];by_cases h:k=x.1
   · subst h
     simp[List.findIdx?_cons,qV]
   have h1:(k==x.1)=false:=by simpa using h
   have h2:(x.1==k)=false:=by simpa using fun e=>h e.symm
   rw[h1];simp only;rw[ih (i+1),List.findIdx?_cons,h2];simp only[Bool.false_eq_true,if_false];cases kvs.findIdx? fun x=>x.1==k with
   |none=>rfl
   |some j=>simp;cases kvs[j]? <;>simp;omega
theorem CN(kvs:List KV)(k:Int):dL kvs k=(kvs.findIdx? fun x=>x.1==k).bind fun j=>(kvs[j]?).map (·.2.1):=by
 unfold dL
 induction kvs with
 |nil=>rfl
 | cons x kvs ih=>
   rw[List.find?_cons,List.findIdx?_cons];cases h:x.1==k
   · rw[ih]
     simp only[Bool.false_eq_true,if_false];cases kvs.findIdx? fun x=>x.1==k with
     |none=>rfl
     |some j=>simp
   simp
theorem On.jH{b:Nat}{kd:IntKind}{kvs:List KV}{ck:Nat}(H:On W0 (bV b kd kvs ck::L) w):B5 kvs ck∧w.heap[b]? =some (jy kd kvs ck):=by
 obtain⟨h1,h2,dd,s1,s2,⟨hf,a⟩,r⟩:=H.sat;exact⟨hf,s1 _ _ a⟩
theorem On.Td{b:Nat}{kd:IntKind}{kvs:List KV}{ck:Nat}(H:On W0 (bV b kd kvs ck::L) w):B5 kvs ck∧On W0 (vf b (jy kd kvs ck)::L) w:=by
 obtain⟨h1,h2,dd,s1,s2,⟨hf,a⟩,r⟩:=H.sat;exact⟨hf,H.os,H.output,H.tape,H.size,h1,h2,dd,s1,s2,a,r⟩
theorem On.Ao{b:Nat}{kd:IntKind}{kvs:List KV}{ck:Nat}(hf:B5 kvs ck)(H:On W0 (vf b (jy kd kvs ck)::L) w):On W0 (bV b kd kvs ck::L) w:=H.head fun h a=>⟨hf,a⟩
theorem On.WR{b:Nat}{kd:IntKind}{kvs FO:List KV}{ck VD:Nat}(hf:B5 FO VD)(H:On W0 (bV b kd kvs ck::L) w):On W0 (bV b kd FO VD::L) {w with heap:=w.heap.setIfInBounds b (jy kd FO VD)}:=by
 obtain⟨_,H⟩:=H.Td;have hb:=H.block 0 rfl;have dW:b<w.heap.size:=(Array.getElem?_eq_some_iff.1 hb).1;refine On.Ao hf (H.set (w':={w with heap:=w.heap.setIfInBounds b (jy kd FO VD)}) 0 rfl rfl rfl rfl (by simp) ?_ ?_)
 · simp[Array.getElem?_setIfInBounds,dW]
 intro k hk;simp[Array.getElem?_setIfInBounds,Ne.symm hk]
theorem mu{t:Nat}{kd:IntKind}(H:On W0 L w):nr P ρ ⟨d,.makeMap t none,ty,pos,af,g⟩ w (fun v w'=>∃b,v=.map (some b)∧On W0 (bV b kd [] 0::L) w'):=by
 refine .inl ⟨.map (some w.heap.size),w.alloc (.map #[] 0), ?_,_,rfl,On.Ao ⟨List.nodup_nil,List.nodup_nil,fun x hx=>by cases hx⟩ (H.alloc _)⟩;have hn:(newObj (.map #[] 0)).run P w=.ok w.heap.size (w.alloc (.map #[] 0)):=rfl;simp[execOp,Instr.makeMap,hn]
theorem kU{kt:TypeId}{q kd:IntKind}{k:Int}(hK:P.underlying kt=some (.int q))(e:Bool)(n:Nat):(Instr.checkKey e (n+1) kt (.int kd k)).run P w=.ok () w:=by
 simp[Instr.checkKey,run_underlying hK]
theorem FP{t kt et b:Nat}{q kd:IntKind}{k:Int}{x y:Operand}{z:Value}{kvs:List KV}{ck:Nat}(hb:w.heap[b]? =some (jy kd kvs ck))(hU:P.underlying t=some (.map kt et))(hK:P.underlying kt=some (.int q))(hZ:∀w,(zeroValue et).run P w=.ok z w)(hx:ρ x=.map (some b))(hy:ρ y=.int kd k):
   (execOp ρ ⟨d,.lookup t x y false,ty,pos,af,g⟩).run P w=.ok (.value ((dL kvs k).getD z)) w:=by
 have hf:=qX (q:=q) (kd:=kd) (k:=k) kvs 0;have hl:=CN kvs k;have se:(getObj b).run P w=.ok (jy kd kvs ck) w:=MapKept.run_getObj_map (by exact hb);unfold jy at se;rw[hl];have BQ:∀e,(Instr.checkKey e 10000 kt (.int kd k)).run P w=.ok () w:=fun e=>kU hK e 9999;cases oK:kvs.findIdx? fun x=>x.1==k with
 | none=>
   rw[oK] at hf;simp only[Option.bind_none] at hf⊢;simp[execOp,Instr.lookup,run_underlying hU,run_underlying hK,hx,hy,se,BQ,Instr.findKey,hf,hZ]
 | some j=>
   rw[oK] at hf;have hj:=(List.findIdx?_eq_some_iff_getElem.1 oK).1;have hg:kvs[j]? =some kvs[j]:=by simp
   simp only[Option.bind_some,hg,Option.map_some] at hf⊢;simp[execOp,Instr.lookup,run_underlying hU,run_underlying hK,hx,hy,se,BQ,Instr.findKey,hf]
theorem gZ{t kt et b:Nat}{q kd:IntKind}{k:Int}{x y:Operand}{z v:Value}{kvs:List KV}{ck:Nat}(hb:w.heap[b]? =some (jy kd kvs ck))(hU:P.underlying t=some (.map kt et))(hK:P.underlying kt=some (.int q))(hZ:∀w,(zeroValue et).run P w=.ok z w)(hx:ρ x=.map (some b))(hy:ρ y=.int kd k)(hv:(dL kvs k).getD z=v):
   (execOp ρ ⟨d,.lookup t x y false,ty,pos,af,g⟩).run P w=.ok (.value v) w:=by rw[←hv];exact FP hb hU hK hZ hx hy
theorem Ix{kd:IntKind}{k:Int}:(Instr.keyThatStays (.int kd k) (.int kd k)).run P w=.ok (.int kd k) w:=by
 have h:∀n,Instr.sameBits n (.int kd k) (.int kd k)=true:=fun n=>by cases n<;>simp[Instr.sameBits]
 unfold Instr.keyThatStays;rw[if_pos (h 10000)];rfl
theorem Iy{kd:IntKind}{k:Int}{v:Value}{kvs:List KV}{j:Nat}(hn:(kvs.map (·.1)).Nodup)(hj:(kvs.findIdx? fun x=>x.1==k)=some j)(ck:Nat):
   ((kvs.map (qV kd)).toArray.modify j fun e=>{e with key:=.int kd k,val:=v})=((iR kvs k v ck).map (qV kd)).toArray:=by
 obtain⟨dW,hk,_⟩:=List.findIdx?_eq_some_iff_getElem.1 hj;have tN:kvs.any (fun x=>x.1==k)=true:=List.any_eq_true.2 ⟨kvs[j],by simp,hk⟩;have Sv:kvs[j].1=k:=by simpa using hk
 unfold iR;rw[if_pos tN];apply Array.ext
 · simp
 intro i h1 h2;simp at h1 h2;by_cases Te:i=j
 · subst Te
   simp[Array.getElem_modify,qV,Sv]
 have l5:kvs[i].1≠k:=by
   intro he;have h3:(kvs.map (·.1))[i]'(by simpa using h1)=(kvs.map (·.1))[j]'(by simpa using dW):=by simp[he,Sv]
   exact Te ((List.getElem_inj hn).1 h3)
 simp[Array.getElem_modify,Ne.symm Te,l5]
theorem Tf{kvs:List KV}{k:Int}{v:Value}{ck:Nat}(h:B5 kvs ck):B5 (iR kvs k v ck) (fV kvs k ck):=by
 obtain⟨h1,h2,h3⟩:=h;unfold iR fV;by_cases ha:kvs.any (fun x=>x.1==k)=true
 · rw[if_pos ha,if_pos ha]
   have e1:(kvs.map fun x=>if x.1=k then(k,v,x.2.2) else x).map (·.1)=kvs.map (·.1):=by
     rw[List.map_map];refine List.map_congr_left fun x _=> ?_;show(if x.1=k then(k,v,x.2.2) else x).1=x.1;split
     · rename_i he;exact he.symm
     rfl
   have e2:(kvs.map fun x=>if x.1=k then(k,v,x.2.2) else x).map (·.2.2)=kvs.map (·.2.2):=by
     rw[List.map_map];refine List.map_congr_left fun x _=> ?_;show(if x.1=k then(k,v,x.2.2) else x).2.2=x.2.2;split<;>rfl
   refine⟨by rw[e1];exact h1,by rw[e2];exact h2,fun x hx=> ?_⟩;obtain⟨y,hy,rfl⟩:=List.mem_map.1 hx;have:=h3 y hy;split<;>exact this
 rw[if_neg ha,if_neg ha];refine⟨?_, ?_,fun x hx=> ?_⟩
 · rw[List.map_append]
   refine List.nodup_append.2 ⟨h1,by simp, ?_⟩;intro a WS b wV;simp at wV;subst wV;rintro rfl;obtain⟨y,hy,he⟩:=List.mem_map.1 WS;exact ha (List.any_eq_true.2 ⟨y,hy,by simpa using he⟩)
 · rw[List.map_append]
   refine List.nodup_append.2 ⟨h2,by simp, ?_⟩;intro a WS b wV;simp at wV;subst wV;rintro rfl;obtain⟨y,hy,he⟩:=List.mem_map.1 WS;have:=h3 y hy;omega
 rcases List.mem_append.1 hx with hx|hx
 · have:=h3 x hx;omega
 simp at hx;subst hx;show ck<ck+1;omega
theorem jI{t kt et b:Nat}{q kd:IntKind}{k:Int}{m y x:Operand}{v:Value}{kvs:List KV}{ck:Nat}(H:On W0 (bV b kd kvs ck::L) w)(hU:P.underlying t=some (.map kt et))(hK:P.underlying kt=some (.int q))(hm:ρ m=.map (some b))(hy:ρ y=.int kd k)(hx:ρ x=v):
   nr P ρ ⟨d,.mapUpdate t m y x,ty,pos,af,g⟩ w (fun _ w'=>On W0 (bV b kd (iR kvs k v ck) (fV kvs k ck)::L) w'):=by
 obtain⟨fe,hb⟩:=H.jH;have hO:=H.WR (Tf (k:=k) (v:=v) fe);have hf:=qX (q:=q) (kd:=kd) (k:=k) kvs 0;have se:(getObj b).run P w=.ok (jy kd kvs ck) w:=MapKept.run_getObj_map (by exact hb);have FQ:∀o,(setObj b o).run P w=.ok () {w with heap:=w.heap.setIfInBounds b o}:=fun o=>MapKept.run_setObj_map o (by exact hb);unfold jy at se;have BQ:∀e,(Instr.checkKey e 10000 kt (.int kd k)).run P w=.ok () w:=fun e=>kU hK e 9999;refine .inr (.inl ⟨_, ?_,hO⟩);cases oK:kvs.findIdx? fun x=>x.1==k with
 | none=>
   rw[oK] at hf;simp only[Option.bind_none] at hf
   have tN:kvs.any (fun x=>x.1==k)=false:=by
     rw[List.any_eq_false];intro x hx;have:=List.findIdx?_eq_none_iff.1 oK x hx;simp[this]
   have e1:jy kd (iR kvs k v ck) (fV kvs k ck)=.map ((kvs.map (qV kd)).toArray.push {key:=.int kd k,val:=v,born:=ck}) (ck+1):=by
     unfold jy iR fV;rw[if_neg (by rw[tN];decide),if_neg (by rw[tN];decide)];simp[qV]
   rw[e1];simp[execOp,Instr.mapUpdate,run_underlying hU,run_underlying hK,hm,hy,hx,se,BQ,Instr.findKey,hf,FQ]
 | some j=>
   rw[oK] at hf;have hj:=(List.findIdx?_eq_some_iff_getElem.1 oK).1;have Ol:=(List.findIdx?_eq_some_iff_getElem.1 oK).2.1;have hg:kvs[j]? =some kvs[j]:=by simp
   simp only[Option.bind_some,hg,Option.map_some,Nat.zero_add] at hf;have tN:kvs.any (fun x=>x.1==k)=true:=List.any_eq_true.2 ⟨kvs[j],by simp,Ol⟩;have Sv:kvs[j].1=k:=by simpa using Ol
   have e1:jy kd (iR kvs k v ck) (fV kvs k ck)=.map ((kvs.map (qV kd)).toArray.modify j fun e=>{e with key:=.int kd k,val:=v}) ck:=by
     unfold jy fV;rw[if_pos tN,Iy fe.1 oK ck]
   rw[e1];have hold:((((kvs.map (qV kd)).toArray[j]?).map (·.key)).getD (.int kd k))=.int kd k:=by simp[hg,qV,Sv]
   simp[execOp,Instr.mapUpdate,run_underlying hU,run_underlying hK,hm,hy,hx,se,BQ,Instr.findKey,hf,FQ,hg,qV,Sv,Ix]
def sg(r b:Nat)(seen:Array Nat)(ck:Nat):aC:=vf r (.mapIter (some b) ck seen ck)
def iX(kvs:List KV)(seen:Array Nat):List KV:=kvs.filter fun x=> !seen.contains x.2.2
theorem w5{t kt et b:Nat}{kd:IntKind}{x:Operand}{kvs:List KV}{ck:Nat}(H:On W0 (bV b kd kvs ck::L) w)(hU:P.underlying t=some (.map kt et))(hx:ρ x=.map (some b)):
   nr P ρ ⟨d,.range t x,ty,pos,af,g⟩ w (fun v w'=>∃r,v=.pointer (some ⟨r,0,none⟩)∧On W0 (sg r b #[] ck::bV b kd kvs ck::L) w'):=by
 have hb:=H.jH.2;have hr:=run_range_map (P:=P) w t kt et b (kvs.map (qV kd)).toArray ck hU hb;refine .inl ⟨_,_, ?_,w.heap.size,rfl,H.alloc _⟩;simp[execOp,hx,hr]
theorem Ap{r b:Nat}{kd:IntKind}{x:Operand}{seen:Array Nat}{kvs:List KV}{ck:Nat}(H:On W0 (sg r b seen ck::bV b kd kvs ck::L) w)(hx:ρ x=.pointer (some ⟨r,0,none⟩)):
   nr P ρ ⟨d, .next x false, ty, pos, af, g⟩ w (fun v w' => (iX kvs seen = [] ∧ v = .tuple #[.bool false] ∧ On W0 (sg r b seen ck :: bV b kd kvs ck :: L) w') ∨
     (∃ e ∈ iX kvs seen, v = .tuple #[.bool true, .int kd e.1, e.2.1] ∧ On W0 (sg r b (seen.push e.2.2) ck :: bV b kd kvs ck :: L) w')) := by
 have hr:w.heap[r]? =some (.mapIter (some b) ck seen ck):=H.block 0 rfl;obtain⟨fe,hb⟩:=H.tail.jH
 have VE:(leftOf (kvs.map (qV kd)).toArray seen).toList=(iX kvs seen).map (qV kd):=by
   unfold leftOf iX;rw[show((kvs.map (qV kd)).toArray.filter fun e=> !seen.contains e.born).toList=(kvs.map (qV kd)).filter (fun e=> !seen.contains e.born) by simp,List.filter_map];rfl
 rcases run_next_at (P := P) w ty r b ck ck seen (kvs.map (qV kd)).toArray ck hr hb (fun y hy => by
   simp at hy;obtain ⟨a1, a2, a3, hy, rfl⟩ := hy;exact fe.2.2 _ hy) (Nat.le_refl _) with ⟨h0, Iz⟩ | ⟨e, he, w1, IA, Iz⟩
 · have mw:iX kvs seen=[]:=by
     have:(leftOf (kvs.map (qV kd)).toArray seen).toList.length=0:=by simpa using h0
     rw[VE] at this;exact List.eq_nil_of_length_eq_zero (by simpa using this)
   refine .inl ⟨_,w, ?_,.inl ⟨mw,rfl,H⟩⟩;simp[execOp,hx,Iz]
 rw[VE] at he;obtain⟨y,hy,rfl⟩:=List.mem_map.1 he;have H1:On W0 (sg r b seen ck::bV b kd kvs ck::L) w1:=by rcases IA with rfl|rfl;exact H;exact H.drew
 have LG:w1.heap[r]? =some (.mapIter (some b) ck seen ck):=H1.block 0 rfl;have dW:r<w1.heap.size:=(Array.getElem?_eq_some_iff.1 LG).1;refine .inl ⟨.tuple #[.bool true,.int kd y.1,y.2.1],_,by simp[execOp,hx,Iz,qV];rfl,.inr ⟨y,hy,rfl, ?_⟩⟩;refine H1.set 0 rfl rfl rfl rfl ?_ ?_ ?_
 · simp[ChangeMaps.setBlock]
 · simp[ChangeMaps.setBlock,Array.getElem?_setIfInBounds,dW,qV]
 intro k hk;simp[ChangeMaps.setBlock,Array.getElem?_setIfInBounds,Ne.symm hk]
theorem uD{r b:Nat}{kd:IntKind}{x:Operand}{seen:Array Nat}{kvs:List KV}{ck:Nat}{e:KV}(H:On W0 (sg r b (seen.push e.2.2) ck::bV b kd kvs ck::L) w)(he:e∈kvs)(hx:ρ x=.pointer (some ⟨r,0,none⟩)):
   (execOp ρ ⟨d,.entry x,ty,pos,af,g⟩).run P w=.ok (.value (.tuple #[.int kd e.1,e.2.1])) w:=by
 have hr:w.heap[r]? =some (.mapIter (some b) ck (seen.push e.2.2) ck):=H.block 0 rfl;obtain⟨fe,hb⟩:=H.tail.jH
 have h1 := run_entry_at (P := P) w r b ck seen (kvs.map (qV kd)).toArray ck (qV kd e) hr hb (by simpa using ⟨e.1, e.2.1, e.2.2, he, rfl⟩) (by
   have:((kvs.map (qV kd)).toArray.toList.map (·.born))=kvs.map (·.2.2):=by simp[Function.comp_def,qV]
   rw [this]; exact fe.2.1)
 simp[execOp,hx,h1,qV]
end
end Go.Sl
namespace Go.Sl
open Go
def eE{α:Type}(A:α→aC)(l:List α):aC:=star (l.map A)
section
variable{α:Type}{A:α→aC}{l l':List α}{W0 w:World}{L:List aC}
theorem tZ(f:α→aC):∀(l:List α) (i:Nat),(l.map f).eraseIdx i=(l.eraseIdx i).map f
 |[],_=>by simp
 |_::_,0=>by simp
 |x::l,i+1=>by simp[tZ f l i]
theorem eE.nil(H:On W0 L w):On W0 (eE A []::L) w:=H.new fun h=>trivial
theorem eE.perm(p:l.Perm l')(H:On W0 (eE A l::L) w):On W0 (eE A l'::L) w:=H.head fun h s=>Sat.perm (p.map A) s
theorem eE.open{i:Nat}{x:α}(hx:l[i]? =some x)(H:On W0 (eE A l::L) w):On W0 (A x::eE A (l.eraseIdx i)::L) w:=by
 have h1:=H.zS
 have h2 := h1.pull i (A := A x) (by
   have dW := (List.getElem?_eq_some_iff.1 hx).1;rw [List.getElem?_append_left (by simpa using dW), List.getElem?_map, hx]; rfl)
 have dW:=(List.getElem?_eq_some_iff.1 hx).1;rw[List.eraseIdx_append_of_lt_length (by simpa using dW),tZ] at h2;have h3:On W0 ((A x::(l.eraseIdx i).map A)++L) w:=h2;have h4:On W0 (([A x]++((l.eraseIdx i).map A))++L) w:=h3;rw[List.append_assoc] at h4;have h5:On W0 (A x::((l.eraseIdx i).map A++L)) w:=h4;exact h5.imp fun h s=>s.aI fun k s'=>Sat.uv s'
theorem eE.close{i:Nat}{y:α}(hi:i<l.length)(H:On W0 (A y::eE A (l.eraseIdx i)::L) w):On W0 (eE A (l.set i y)::L) w:=by
 have h1:On W0 (A y::((l.eraseIdx i).map A++L)) w:=H.imp fun h s=>s.aI fun k s'=>Sat.zS s';have h2:On W0 ((A y::(l.eraseIdx i).map A)++L) w:=h1;have h3:On W0 (eE A (y::l.eraseIdx i)::L) w:=On.uv h2;refine eE.perm ?_ h3;have e1:l.set i y=l.take i++y::l.drop (i+1):=by rw[List.set_eq_take_append_cons_drop,if_pos hi]
 have e2:l.eraseIdx i=l.take i++l.drop (i+1):=List.eraseIdx_eq_take_drop_succ ..;rw[e1,e2];exact List.perm_middle.symm
theorem eE.push{y:α}(H:On W0 (A y::eE A l::L) w):On W0 (eE A (l++[y])::L) w:=by
 have h1:On W0 (A y::(l.map A++L)) w:=H.imp fun h s=>s.aI fun k s'=>Sat.zS s';have h2:On W0 ((A y::l.map A)++L) w:=h1;have h3:On W0 (eE A (y::l)::L) w:=On.uv h2;exact eE.perm (List.perm_append_singleton y l).symm h3
end
end Go.Sl
namespace Go.Sl
open Go
section
variable{P:Program}{w:World}{ρ:Operand→Value}{d:Option Nat}{ty:TypeId}{pos:String}{af:Array Edge}{g:Option (Nat×Bool)}
end
end Go.Sl
namespace Go.Sl
open Go
section
variable{P:Program}{W0 w:World}{L L':List aC}{ρ:Operand→Value}{d:Option Nat}{ty:TypeId}{pos:String}{af:Array Edge}{g:Option (Nat×Bool)}
end
end Go.Sl
namespace Go.Sl
open Go
section
variable{P:Program}{W0 w:World}{L L':List aC}{ρ:Operand→Value}{d:Option Nat}{ty:TypeId}{pos:String}{af:Array Edge}{g:Option (Nat×Bool)}
end
end Go.Sl
namespace Go.Sl
open Go
theorem Tg{P:Program}{W:World}{t e:TypeId}{k:IntKind}(ht:P.underlying t=some (.slice e))(he:P.underlying e=some (.int k))(hc:P.cellsOf e=1):
   Rd P W t (fun cs=>∃a c,∃l:List Int,cs=[.slice a l.length c]∧(∀x∈l,(Lit.int k x).wf=true)∧Cells 1 (.slice a l.length c) l.length (l.map (.int k)) (hp W)):=
 (It (α:=Int) (Q:=fun x=>(Lit.int k x).wf=true) (f:=fun x=>[.int k x]) ht hc (by omega) ((WO he).mono fun cs ⟨z,h1,h2⟩=>⟨z,h1,h2⟩)).mono fun cs ⟨a,c,l,h1,h2,h3⟩=>⟨a,c,l,h1,h2,by rw[Af] at h3;exact h3⟩
theorem pT{α:Type}{l:List α}{i:Nat}{x:α}(h:l[i]? =some x):l.take (i+1)=l.take i++[x]:=by rw[List.take_add_one,h];rfl
end Go.Sl
namespace Go.Sl
open Go
end Go.Sl
namespace Go.Sl
open Go
section
variable{P:Program}{W0 w:World}{L:List aC}{ρ:Operand→Value}{d:Option Nat}{ty:TypeId}{pos:String}{af:Array Edge}{g:Option (Nat×Bool)}
end
section
variable{P:Program}{w:World}
theorem vC{fn:Func}{p u v:Tmp}{ty:TypeId}(h:fn.results=#[.cell p ty,.tmp u,.tmp v])(tmps:Array Value)(P:Program)(w:World):
   (results fn tmps).run P w=
     ((asAddr (tmps.getD p undef)).run P w).andThen fun a B6=>((loadVar ty a).run P B6).andThen fun x Om=> .ok (.tuple #[x,tmps.getD u undef,tmps.getD v undef]) Om:=by
 simp only[results,h];simp[Sem.run_bind,Result.andThen]
theorem bf.afl{N:Nat}{env:Env}{fn:Func}{R:Value→World→Prop}{t u v rt b n:Nat}{vs:List Value}{v2 v3:Value}(h:fn.results=#[.cell t rt,.tmp u,.tmp v])(hA:∀w,(isAgg rt).run P w=.ok true w)(hS:∀w,(sizeOf rt).run P w=.ok n w)
   (he:env t=.pointer (some ⟨b,0,none⟩)) (hl:vs.length=n) (hc:∀j u,vs[j]? =some u→w.cell? ⟨b,0+j,none⟩=some u) (h2:env u=v2) (h3:env v=v3) (hR:R (.tuple #[.agg vs.toArray,v2,v3]) w):
   bf P fn R .ret env w:=by
 refine⟨.tuple #[.agg vs.toArray,v2,v3],fun tmps hg=> ?_,hR⟩;have hp:tmps.getD t undef=.pointer (some ⟨b,0,none⟩):=by rw[hg,he]
 have WM:tmps[t]?.getD undef=.pointer (some ⟨b,0,none⟩):=by simpa using hp
 have:=run_loadCells_list (P:=P) w ⟨b,0,none⟩ vs (fun j v hv=>by rw[Addr.jU];exact hc j v hv);rw[hl] at this;rw[vC h,hp];simp only[asAddr,Sem.run_pure,Result.andThen_ok];simp[loadVar,hA,hS,this,←h2,←h3,←hg u,←hg v]
theorem bf.Oo{W0:World}{L:List aC}{env:Env}{fn:Func}{R:Value→World→Prop}{t u v rt b n:Nat}{l vs:List Value}{v2 v3:Value}{e:Nat}{fr:Nat×Nat}(H:On W0 L w)(h:fn.results=#[.cell t rt,.tmp u,.tmp v])(hA:∀w,(isAgg rt).run P w=.ok true w)(hS:∀w,(sizeOf rt).run P w=.ok n w)
   (he:env t=.pointer (some ⟨b,0,none⟩)) [i:dQ L b l e fr] (hv:l=vs) (hl:vs.length=n) (h2:env u=v2) (h3:env v=v3) (hR:R (.tuple #[.agg vs.toArray,v2,v3]) w):bf P fn R .ret env w:=
 bf.afl (N:=0) h hA hS he hl (fun j u hj=>by rw[Nat.zero_add];exact H.aS (i:=i) (by rw[hv];exact hj)) h2 h3 hR
end
end Go.Sl
namespace Go.Sl
open Go
section
variable{P:Program}{w:World}{env:Env}
theorem Ea{fn:Func}{t u x y:Tmp}(h:fn.results=#[.tmp t,.tmp u,.tmp x,.tmp y])(tmps:Array Value)(P:Program)(w:World):
   (results fn tmps).run P w=.ok (.tuple #[tmps.getD t undef,tmps.getD u undef,tmps.getD x undef,tmps.getD y undef]) w:=by
 simp only[results,h];simp
theorem Eb{fn:Func}{t u x y z q:Tmp}(h:fn.results=#[.tmp t,.tmp u,.tmp x,.tmp y,.tmp z,.tmp q])(tmps:Array Value)(P:Program)(w:World):
   (results fn tmps).run P w=.ok (.tuple #[tmps.getD t undef,tmps.getD u undef,tmps.getD x undef,tmps.getD y undef,tmps.getD z undef,tmps.getD q undef]) w:=by
 simp only[results,h];simp
theorem bf.r4{fn:Func}{R:Value→World→Prop}{t u x y:Nat}{v1 v2 v3 v4:Value}(h:fn.results=#[.tmp t,.tmp u,.tmp x,.tmp y])(h1:env t=v1)(h2:env u=v2)(h3:env x=v3)(h4:env y=v4)(hR:R (.tuple #[v1,v2,v3,v4]) w):bf P fn R .ret env w:=
 ⟨_,fun tmps hg=>by rw[Ea h tmps P w,hg,hg,hg,hg,h1,h2,h3,h4],hR⟩
theorem bf.r6{fn:Func}{R:Value→World→Prop}{t u x y z q:Nat}{v1 v2 v3 v4 v5 v6:Value}(h:fn.results=#[.tmp t,.tmp u,.tmp x,.tmp y,.tmp z,.tmp q])(h1:env t=v1)(h2:env u=v2)(h3:env x=v3)(h4:env y=v4)(h5:env z=v5)(h6:env q=v6)(hR:R (.tuple #[v1,v2,v3,v4,v5,v6]) w):bf P fn R .ret env w:=
 ⟨_,fun tmps hg=>by rw[Eb h tmps P w,hg,hg,hg,hg,hg,hg,h1,h2,h3,h4,h5,h6],hR⟩
end
section
variable{P:Program}{w:World}{ρ:Operand→Value}{d:Option Nat}{ty:TypeId}{pos:String}{af:Array Edge}{g:Option (Nat×Bool)}
theorem gM{t yt:TypeId}{x y:Operand}{m n:Nat}(hx:ρ x=.int .i64 (m:Int))(hy:ρ y=.int .i64 (n:Int))(h2:m≤9223372036854775807)(h':1≤n):(execOp ρ ⟨d,.binOp .quo t x y yt,ty,pos,af,g⟩).run P w=.ok (.value (.int .i64 ((m / n:Nat):Int))) w:=by
 rw[qJ hx hy (by omega) (by omega) (by omega)];rw[Int.natCast_ediv]
theorem mz{t yt:TypeId}{x y:Operand}{m n:Nat}(hx:ρ x=.int .i64 (m:Int))(hy:ρ y=.int .i64 (n:Int))(h':1≤n):(execOp ρ ⟨d,.binOp .rem t x y yt,ty,pos,af,g⟩).run P w=.ok (.value (.int .i64 ((m % n:Nat):Int))) w:=by
 rw[oJ hx hy (by omega) (by omega)];rw[Int.natCast_emod]
theorem Aq{qK:Array TypeId}{x y:Operand}{m n r:Nat}(hx:ρ x=.int .i64 (m:Int))(hy:ρ y=.int .i64 (n:Int))(hr:max m n=r):(execOp ρ ⟨d,.call {callee:=.builtin .max,args:=#[x,y],argTypes:=qK},ty,pos,af,g⟩).run P w=.ok (.value (.int .i64 (r:Int))) w:=by
 rw[Aj hx hy,show max (m:Int) (n:Int)=(r:Int) by omega]
theorem Oq{qK:Array TypeId}{x y:Operand}{m n r:Nat}(hx:ρ x=.int .i64 (m:Int))(hy:ρ y=.int .i64 (n:Int))(hr:min m n=r):(execOp ρ ⟨d,.call {callee:=.builtin .min,args:=#[x,y],argTypes:=qK},ty,pos,af,g⟩).run P w=.ok (.value (.int .i64 (r:Int))) w:=by
 rw[vB hx hy,show min (m:Int) (n:Int)=(r:Int) by omega]
end
section
variable{P:Program}{w:World}{d:Option Nat}{ty:TypeId}{pos:String}{af:Array Edge}{g:Option (Nat×Bool)}
theorem nP{env:Env}{x x1 x2:Operand}{f:FuncId}{cap v1 v2:Value}{qK:Array TypeId}{R:Value→World→Prop}(hx:cN env x=.func (.func f) #[] #[cap])(hf:∀args w,(callFunc f args).run P w=.ok (.enter f args) w)
   (h1:cN env x1=v1) (h2:cN env x2=v2) (hc:Calls P f #[v1,v2,cap] w (wU R)):nr P (cN env) ⟨d,.call {callee:=.value x,args:=#[x1,x2],argTypes:=qK},ty,pos,af,g⟩ w R:=by
 subst h1;subst h2;exact nI (xs:=[x1,x2]) hx hf hc
end
end Go.Sl
namespace Go.Sl
open Go
section
variable{P:Program}{W0 w:World}{L:List aC}{ρ:Operand→Value}{d:Option Nat}{ty:TypeId}{pos:String}{af:Array Edge}{g:Option (Nat×Bool)}
end
end Go.Sl
namespace Go.Sl
open Go
section
variable{P:Program}{w:World}{ρ:Operand→Value}{d:Option Nat}{ty:TypeId}{pos:String}{af:Array Edge}{g:Option (Nat×Bool)}
end
end Go.Sl
namespace Go.Sl
open Go
section
variable{P:Program}{W0 w:World}{L:List aC}{ρ:Operand→Value}{d:Option Nat}{ty:TypeId}{pos:String}{af:Array Edge}{g:Option (Nat×Bool)}
theorem jJ{t b o i size n c:Nat}{x y:Operand}{vs xs:List Value}(H:On W0 (Own size (.slice (some ⟨b,o,none⟩) n c) n xs::L) w)(hS:∀w,(sizeOf t).run P w=.ok size w)(h:ρ x=.pointer (some ⟨b,o+i*size,none⟩))(hy:ρ y=.agg vs.toArray)(hn:vs.length=size)
   (hv:vs.all (·.oneCell')=true) (hi:i<n):nr P ρ ⟨d,.store t x y,ty,pos,af,g⟩ w (fun _ w'=>On W0 (Own size (.slice (some ⟨b,o,none⟩) n c) n (cE xs (i*size) vs)::L) w'):=by
 obtain⟨eC,hO⟩:=Own.mT H;rcases hO with⟨rfl,ao,B3⟩|⟨gb,off,cap,cur,e,fr,B3,vg,rz,fe,rA,iT,Hb⟩
 · omega
 simp only[Value.slice.injEq,Option.some.injEq,Addr.mk.injEq] at B3;obtain⟨⟨rfl,rfl,_⟩,_,rfl⟩:=B3;have afh:n*size≤c*size:=Nat.mul_le_mul_right _ vg;have IB:(i+1)*size≤n*size:=Nat.mul_le_mul_right _ hi;rw[Nat.succ_mul] at IB;obtain⟨w',hr,Ip⟩:=ux (P:=P) (ρ:=ρ) (d:=d) (ty:=ty) (pos:=pos) (af:=af) (g:=g) Hb (i:=0) rfl hS h hy hn (by simpa using hv) (by omega) (fun k h1 h2=>oH iT (by omega));refine .inr (.inl ⟨w',hr, ?_⟩);have hl:o+i*size+vs.length≤cur.length:=by omega
 refine Own.nA (e:=e) (fr:=fr) Ip ?_ vg rz (by rw[cM hl];exact fe) ?_ (by rw[cM hl];exact iT)
 · rw[cM (by omega)];exact eC
 rw[pS (n:=n*size) (by omega) (by omega),rA]
end
end Go.Sl
namespace Go.Sl
open Go
section
variable{P:Program}{w:World}{ρ:Operand→Value}{d:Option Nat}{ty:TypeId}{pos:String}{af:Array Edge}{g:Option (Nat×Bool)}
end
end Go.Sl
namespace Go.Sl
open Go
instance(priority:=high):Coe Nat Value:=⟨fun b=> .pointer (some ⟨b,0,none⟩)⟩
set_option linter.unusedVariables false
theorem qO{P:Program}{n:Nat}{f:FuncId}{fn:Func}{c:Code}{args:List Value}{R:Value→World→Prop}{w:World}(h:W P (@OfNat.ofNat Nat n (instOfNatNat n)) c (bf P fn R) (uw args) w)(hf:P.funcs.toList[f]? =some fn:=by rfl)(hb:fn.body=some c:=by rfl)(hn:fn.ntmps= @OfNat.ofNat Nat n (instOfNatNat n):=by rfl)(hl:Nat.ble args.length (@OfNat.ofNat Nat n (instOfNatNat n))=true:=by rfl):Calls P f args.toArray w (wU R):=enter (by rw[←Array.getElem?_toList];exact hf) hb hn hl h
structure Wr(B:Prop):Prop where
  o:B
theorem Th:([]:List Value)=[]:=rfl
theorem NR{u v:Value}(h:u=v:=by first|exact(rfl:_=Value.int _ _)|exact(rfl:_=Value.slice _ _ _)|exact(rfl:_=Value.bool _)|exact(rfl:_=Value.pointer _)|exact(rfl:_=Value.map _)|exact(rfl:_=Value.string _)|exact(rfl:_=Value.agg _)|exact(rfl:_=Value.tuple _)|exact(rfl:_=Value.func _ _ _)|exact rfl):u=v:=h
theorem Ot{u v:Value}{l l':List Value}(h:u=v)(t:l=l'):u::l=v::l':=by rw[h,t]
theorem zNl{l l':List Value}(h:l=l':=by repeat (first|exact Th|(apply Ot;exact NR))):l=l':=h
class Ti(pl:List (Nat×Nat))(i:Nat)(o n:outParam Nat):Prop where
  h:pl[i]? =some (o,n)
instance{o n:Nat}{pl:List (Nat×Nat)}:Ti ((o,n)::pl) 0 o n:=⟨rfl⟩
instance{o n i:Nat}{x:Nat×Nat}{pl:List (Nat×Nat)}[s:Ti pl i o n]:Ti (x::pl) (i+1) o n:=⟨s.h⟩
class FT(v:Value)(l:outParam (List Value)):Prop where
  h:v.cells=l.toArray
instance{k:IntKind}{n:Int}:FT (.int k n) [.int k n]:=⟨rfl⟩
instance{a:Option Addr}{n c:Nat}:FT (.slice a n c) [.slice a n c]:=⟨rfl⟩
instance{b:Bool}:FT (.bool b) [.bool b]:=⟨rfl⟩
instance{a:Option Addr}:FT (.pointer a) [.pointer a]:=⟨rfl⟩
instance{a:Option Nat}:FT (.map a) [.map a]:=⟨rfl⟩
instance{a:ByteArray}:FT (.string a) [.string a]:=⟨rfl⟩
instance{l:List Value}:FT (.agg l.toArray) l:=⟨rfl⟩
class Tj(l:List Value)(n:Nat):Prop where
  h:l.length=n
instance:Tj [] 0:=⟨rfl⟩
instance{x:Value}{l:List Value}{n:Nat}[s:Tj l n]:Tj (x::l) (n+1):=⟨by rw[List.length_cons,s.h]⟩
class Tk(pl:List (Nat×Nat))(z:List Value)(vs:List (Nat×Value))(out:outParam (List Value)):Prop where
  h:fits pl z.length vs∧kP pl z vs=out
instance{pl:List (Nat×Nat)}{z:List Value}:Tk pl z [] z:=⟨trivial,rfl⟩
instance{pl:List (Nat×Nat)}{z z' l out:List Value}{i o n:Nat}{v:Value}{vs:List (Nat×Value)}[g:Ti pl i o n][c:FT v l][k:Tj l n][s:Iu z o l z'][t:Tk pl z' vs out]:Tk pl z ((i,v)::vs) out:=by
  obtain⟨s1,s2⟩:=s.h;obtain⟨t1,t2⟩:=t.h;have hk:=k.h;have hc:v.cells.toList=l:=by rw[c.h]
  have hz:z'.length=z.length:=by rw[←s1];exact cM s2
  refine⟨⟨⟨o,n,g.h,by rw[c.h];simpa using hk,by omega⟩,by rw[←hz];exact t1⟩, ?_⟩;show kP pl (cE z ((pl[i]?.getD (0,0)).1) v.cells.toList) vs=out;rw[g.h,hc];show kP pl (cE z o l) vs=out;rw[s1,t2]
class nQ(P:Program)(t:Nat)(z:outParam (List Value))(pl:outParam (List (Nat×Nat))):Prop where
  h:∃fs,P.underlying t=some (.struct fs)∧(∀w,(zeroValue t).run P w=.ok (.agg z.toArray) w)∧(∀w,((fs.mapM fun f=>do pure (f.offset,←sizeOf f.type):Sem (Array (Nat×Nat)))).run P w=.ok pl.toArray w)
theorem zw{ρ:Operand→Value}:([]:List (Nat×Operand)).map (fun p=>(p.1,ρ p.2))=[]:=rfl
theorem vD{ρ:Operand→Value}{i:Nat}{o:Operand}{v:Value}{ps:List (Nat×Operand)}{vs:List (Nat×Value)}(h:ρ o=v)(t:ps.map (fun p=>(p.1,ρ p.2))=vs):((i,o)::ps).map (fun p=>(p.1,ρ p.2))=(i,v)::vs:=by rw[←h,←t];rfl
def aaM:List Bool→List Nat→Nat
  |true::l,_::k=>aaM l k
  |false::_,n::_=>n
  |_,_=>0
def nxt(a:Array Bool):Nat:=aaM a.toList [0,1,2,3,4,5,6,7,8,9,10,11,12,13,14,15,16,17,18,19,20,21,22,23,24,25,26,27,28,29,30,31,32,33,34,35,36,37,38,39,40,41,42,43,44,45,46,47,48,49,50,51,52,53,54,55,56,57,58,59,60,61,62,63,64,65,66,67,68,69,70,71,72,73,74,75,76,77,78,79,80,81,82,83,84,85,86,87,88,89,90,91,92,93,94,95,96,97,98,99]
section
variable{P:Program}{N fuel n:Nat}{ops:Array Oper}{K:Env→World→Prop}{T:mh}{aM:Array Bool}{env:Env}{w W0:World}{L:List aC}{x:Operand}{d:Option Nat}{ty:TypeId}{pos:String}{af:Array Edge}{g:Option (Nat×Bool)}
abbrev Y2(P:Program)(N fuel:Nat)(ops:Array Oper)(K:Env→World→Prop)(T:mh)(aM:Array Bool)(env:Env)(w:World)(x:Operand)(p:Op)(u v:Value):Prop:=∀{n:Nat} {d:Option Nat} {ty:TypeId} {pos:String} {af:Array Edge} {g:Option (Nat×Bool)} (k:WT P N ops K fuel T (aM.setIfInBounds (@OfNat.ofNat Nat n (instOfNatNat n)) true) (cP env d v) w) (hn:nxt aM= @OfNat.ofNat Nat n (instOfNatNat n):=by rfl) (hi:ops[@OfNat.ofNat Nat n (instOfNatNat n)]? =some ⟨d,p,ty,pos,af,g⟩:=by rfl) (h:cN env x=u:=by rfl) (hb:kg ops aM (@OfNat.ofNat Nat n (instOfNatNat n))=true:=by kernel_rfl) (hw:Region.wanted ⟨d,p,ty,pos,af,g⟩ (aU ops env)=true:=by rfl) (hd:iN N d=true:=by rfl),WT P N ops K (fuel+1) T aM env w
theorem WT.xm:Y2 P N fuel ops K T aM env w x (.move x) (cN env x) (cN env x):=fun k hn hi h hb hw hd=>WT.pure _ hi hb (fun _=>run_move) hw hd k
theorem WT.xa:Y2 P N fuel ops K T aM env w x (.assign x) (cN env x) (cN env x):=fun k hn hi h hb hw hd=>WT.pure _ hi hb (fun _=>run_assign) hw hd k
theorem WT.xn{a:Addr}:Y2 P N fuel ops K T aM env w x (.nilCheck x) (.pointer (some a)) (.pointer (some a)):=fun k hn hi h hb hw hd=>WT.pure _ hi hb (fun _=>jv h) hw hd k
theorem WT.xt{b:Bool}{t:TypeId}:Y2 P N fuel ops K T aM env w x (.unOp .not t x) (.bool b) (.bool !b):=fun k hn hi h hb hw hd=>WT.pure _ hi hb (fun _=>cQ h) hw hd k
theorem WT.xp{c a b:Operand}:Y2 P N fuel ops K T aM env w c (.pick c a b) (.bool true) (cN env a):=fun k hn hi h hb hw hd=>WT.pure _ hi hb (fun _=>kj h) hw hd k
theorem WT.xq{c a b:Operand}:Y2 P N fuel ops K T aM env w c (.pick c a b) (.bool false) (cN env b):=fun k hn hi h hb hw hd=>WT.pure _ hi hb (fun _=>lP h) hw hd k
theorem WT.xf{s fi b o off:Nat}[u:bh P s fi off]:Y2 P N fuel ops K T aM env w x (.fieldAddr s x fi) (.pointer (some ⟨b,o,none⟩)) (.pointer (some ⟨b,o+off,none⟩)):=fun k hn hi h hb hw hd=>by
  obtain⟨fs,f,m,h1,h2,h3,h4⟩:=u.h;exact WT.pure _ hi hb (fun _=>fm off h1 h2 h3 h h4) hw hd k
theorem WT.xe{i:Nat}{vs:List Value}{v:Value}(k:WT P N ops K fuel T (aM.setIfInBounds (@OfNat.ofNat Nat n (instOfNatNat n)) true) (cP env d v) w)(hn:nxt aM= @OfNat.ofNat Nat n (instOfNatNat n):=by rfl)(hi:ops[@OfNat.ofNat Nat n (instOfNatNat n)]? =some ⟨d,.extract x i,ty,pos,af,g⟩:=by rfl)(h:cN env x=.tuple vs.toArray:=by rfl)(hv:vs[i]? =some v:=by rfl)(hb:kg ops aM (@OfNat.ofNat Nat n (instOfNatNat n))=true:=by kernel_rfl)(hw:Region.wanted ⟨d,.extract x i,ty,pos,af,g⟩ (aU ops env)=true:=by rfl)(hd:iN N d=true:=by rfl):WT P N ops K (fuel+1) T aM env w:=WT.pure _ hi hb (fun _=>bZ h hv) hw hd k
theorem WT.xd(h:K env w)(hr:Region.ready .any ops aM=[]:=by kernel_rfl):WT P N ops K 0 T aM env w:=WT.dn h hr
theorem WT.xs(k:WT P N ops K fuel T (aM.setIfInBounds (@OfNat.ofNat Nat n (instOfNatNat n)) true) (cP env d undef) w){p:Op}(hn:nxt aM= @OfNat.ofNat Nat n (instOfNatNat n):=by rfl)(hi:ops[@OfNat.ofNat Nat n (instOfNatNat n)]? =some ⟨d,p,ty,pos,af,g⟩:=by rfl)(hb:kg ops aM (@OfNat.ofNat Nat n (instOfNatNat n))=true:=by kernel_rfl)(hw:Region.wanted ⟨d,p,ty,pos,af,g⟩ (aU ops env)=false:=by rfl)(hd:iN N d=true:=by rfl):WT P N ops K (fuel+1) T aM env w:=WT.skip _ hi hb hw hd k
theorem WT.xl{t b o:Nat}{v:Value}[hA:ew P t false](H:On W0 L w)[r:RdL L b o v](k:WT P N ops K fuel ((@OfNat.ofNat Nat n (instOfNatNat n),fun w=>w.cell? ⟨b,o,none⟩=some v)::T) (aM.setIfInBounds (@OfNat.ofNat Nat n (instOfNatNat n)) true) (cP env d v) w)(hn:nxt aM= @OfNat.ofNat Nat n (instOfNatNat n):=by rfl)(hi:ops[@OfNat.ofNat Nat n (instOfNatNat n)]? =some ⟨d,.load t x,ty,pos,af,g⟩:=by rfl)(h:cN env x=.pointer (some ⟨b,o,none⟩):=by rfl)(hb:kg ops aM (@OfNat.ofNat Nat n (instOfNatNat n))=true:=by kernel_rfl)(hw:Region.wanted ⟨d,.load t x,ty,pos,af,g⟩ (aU ops env)=true:=by rfl)(hd:iN N d=true:=by rfl):WT P N ops K (fuel+1) T aM env w:=
  WT.VB _ hi hb hA.h h (by
    obtain ⟨l, e, fr, h1, h2⟩ := r.h;rw [cell_of_row w b o _ _ _ (h1 _ H.sat)]; simpa using h2) hw hd k
end
section
variable{P:Program}{N:Nat}{ops:Array Oper}{R:List Oper→Env→World→Prop}{env:Env}{w:World}{rest:List Oper}{x y:Operand}{d:Option Nat}{ty:TypeId}{pos:String}{af:Array Edge}{g:Option (Nat×Bool)}
abbrev Y1(N:Nat)(ops:Array Oper)(R:List Oper→Env→World→Prop)(rest:List Oper)(env:Env)(w:World)(p:Op)(v:Value):Prop:=∀{d:Option Nat} {ty:TypeId} {pos:String} {af:Array Edge} {g:Option (Nat×Bool)} (k:R rest (cP env d v) w) (hw:Region.wanted ⟨d,p,ty,pos,af,g⟩ (aU ops env)=true:=by rfl) (hd:iN N d=true:=by rfl),R (⟨d,p,ty,pos,af,g⟩::rest) env w
theorem X.nt[c:SR P N ops R]{b:Bool}{t:TypeId}(h:cN env x=.bool b):Y1 N ops R rest env w (.unOp .not t x) (.bool !b):=fun k hw hd=>c.val (fun _=>cQ h) hw hd rfl k
theorem X.pt[c:SR P N ops R]{e a b:Operand}(h:cN env e=.bool true):Y1 N ops R rest env w (.pick e a b) (cN env a):=fun k hw hd=>c.val (fun _=>kj h) hw hd rfl k
theorem X.pf[c:SR P N ops R]{e a b:Operand}(h:cN env e=.bool false):Y1 N ops R rest env w (.pick e a b) (cN env b):=fun k hw hd=>c.val (fun _=>lP h) hw hd rfl k
theorem X.pn[c:SR P N ops R]{t yt e:TypeId}{a:Option Addr}(hU:P.underlying t=some (.pointer e))(hx:cN env x=.pointer a)(hy:cN env y=.pointer none):Y1 N ops R rest env w (.binOp .eql t x y yt) (.bool a.isNone):=fun k hw hd=>c.val (fun _=>gz hU hx hy) hw hd rfl k
theorem X.pq[c:SR P N ops R]{t yt e:TypeId}{a:Option Addr}(hU:P.underlying t=some (.pointer e))(hx:cN env x=.pointer a)(hy:cN env y=.pointer none):Y1 N ops R rest env w (.binOp .neq t x y yt) (.bool (!a.isNone)):=fun k hw hd=>c.val (fun _=>fq hU hx hy) hw hd rfl k
theorem X.ia[c:SR P N ops R]{t e sz n b o cc:Nat}{kk:IntKind}{i:Int}(hU:P.underlying t=some (.slice e))(hS:∀w,(sizeOf e).run P w=.ok (@OfNat.ofNat Nat sz (instOfNatNat sz)) w)(hx:cN env x=.slice (some ⟨b,o,none⟩) n cc)(hy:cN env y=.int kk i)(h0:0≤i)(h1:i<n):Y1 N ops R rest env w (.indexAddr t x y) (.pointer (some ⟨b,o+i.toNat*(@OfNat.ofNat Nat sz (instOfNatNat sz)),none⟩)):=fun k hw hd=>c.val (fun _=>bP hU hS hx hy h0 h1) hw hd rfl k
theorem X.ir[c:SR P N ops R]{t e sz n b o cc:Nat}{kk:IntKind}{i:Int}(hU:P.underlying t=some (.array n e))(hS:∀w,(sizeOf e).run P w=.ok (@OfNat.ofNat Nat sz (instOfNatNat sz)) w)(hx:cN env x=.pointer (some ⟨b,o,none⟩))(hy:cN env y=.int kk i)(h0:0≤i)(h1:i<n):Y1 N ops R rest env w (.indexAddr t x y) (.pointer (some ⟨b,o+i.toNat*(@OfNat.ofNat Nat sz (instOfNatNat sz)),none⟩)):=fun k hw hd=>c.val (fun _=>bg hU hS hx hy h0 h1) hw hd rfl k
theorem X.mf[c:SR P N ops R]{fn:Fn}{xs ys:List Operand}:Y1 N ops R rest env w (.makeFunc fn xs.toArray ys.toArray) (.func fn (xs.map (cN env)).toArray (ys.map (cN env)).toArray):=fun k hw hd=>c.val (fun _=>D8) hw hd rfl k
theorem X.lss[c:SR P N ops R]{t yt:TypeId}{kk:IntKind}{m n:Int}(hx:cN env x=.int kk m)(hy:cN env y=.int kk n):Y1 N ops R rest env w (.binOp .lss t x y yt) (.bool (decide (m<n))):=fun k hw hd=>c.val (fun _=>cH hx hy) hw hd rfl k
theorem X.afm[c:SR P N ops R]{t yt:TypeId}{kk:IntKind}{m n:Int}(hx:cN env x=.int kk m)(hy:cN env y=.int kk n)(h:m<n):Y1 N ops R rest env w (.binOp .lss t x y yt) (.bool true):=fun k hw hd=>c.val (fun _=>FI hx hy h) hw hd rfl k
theorem X.afn[c:SR P N ops R]{t yt:TypeId}{kk:IntKind}{m n:Int}(hx:cN env x=.int kk m)(hy:cN env y=.int kk n)(h:¬m<n):Y1 N ops R rest env w (.binOp .lss t x y yt) (.bool false):=fun k hw hd=>c.val (fun _=>dB hx hy h) hw hd rfl k
theorem X.leq[c:SR P N ops R]{t yt:TypeId}{kk:IntKind}{m n:Int}(hx:cN env x=.int kk m)(hy:cN env y=.int kk n):Y1 N ops R rest env w (.binOp .leq t x y yt) (.bool (decide (m≤n))):=fun k hw hd=>c.val (fun _=>jR hx hy) hw hd rfl k
theorem X.afo[c:SR P N ops R]{t yt:TypeId}{kk:IntKind}{m n:Int}(hx:cN env x=.int kk m)(hy:cN env y=.int kk n)(h:m≤n):Y1 N ops R rest env w (.binOp .leq t x y yt) (.bool true):=fun k hw hd=>c.val (fun _=>vo hx hy h) hw hd rfl k
theorem X.afp[c:SR P N ops R]{t yt:TypeId}{kk:IntKind}{m n:Int}(hx:cN env x=.int kk m)(hy:cN env y=.int kk n)(h:¬m≤n):Y1 N ops R rest env w (.binOp .leq t x y yt) (.bool false):=fun k hw hd=>c.val (fun _=>N8 hx hy h) hw hd rfl k
theorem X.gtr[c:SR P N ops R]{t yt:TypeId}{kk:IntKind}{m n:Int}(hx:cN env x=.int kk m)(hy:cN env y=.int kk n):Y1 N ops R rest env w (.binOp .gtr t x y yt) (.bool (decide (n<m))):=fun k hw hd=>c.val (fun _=>iU hx hy) hw hd rfl k
theorem X.afq[c:SR P N ops R]{t yt:TypeId}{kk:IntKind}{m n:Int}(hx:cN env x=.int kk m)(hy:cN env y=.int kk n)(h:n<m):Y1 N ops R rest env w (.binOp .gtr t x y yt) (.bool true):=fun k hw hd=>c.val (fun _=>zZ hx hy h) hw hd rfl k
theorem X.afr[c:SR P N ops R]{t yt:TypeId}{kk:IntKind}{m n:Int}(hx:cN env x=.int kk m)(hy:cN env y=.int kk n)(h:¬n<m):Y1 N ops R rest env w (.binOp .gtr t x y yt) (.bool false):=fun k hw hd=>c.val (fun _=>eV hx hy h) hw hd rfl k
theorem X.geq[c:SR P N ops R]{t yt:TypeId}{kk:IntKind}{m n:Int}(hx:cN env x=.int kk m)(hy:cN env y=.int kk n):Y1 N ops R rest env w (.binOp .geq t x y yt) (.bool (decide (n≤m))):=fun k hw hd=>c.val (fun _=>eA hx hy) hw hd rfl k
theorem X.afs[c:SR P N ops R]{t yt:TypeId}{kk:IntKind}{m n:Int}(hx:cN env x=.int kk m)(hy:cN env y=.int kk n)(h:n≤m):Y1 N ops R rest env w (.binOp .geq t x y yt) (.bool true):=fun k hw hd=>c.val (fun _=>N9 hx hy h) hw hd rfl k
theorem X.aft[c:SR P N ops R]{t yt:TypeId}{kk:IntKind}{m n:Int}(hx:cN env x=.int kk m)(hy:cN env y=.int kk n)(h:¬n≤m):Y1 N ops R rest env w (.binOp .geq t x y yt) (.bool false):=fun k hw hd=>c.val (fun _=>nM hx hy h) hw hd rfl k
theorem X.eql[c:SR P N ops R]{t yt:TypeId}{kk:IntKind}{m n:Int}(hx:cN env x=.int kk m)(hy:cN env y=.int kk n):Y1 N ops R rest env w (.binOp .eql t x y yt) (.bool (decide (m=n))):=fun k hw hd=>c.val (fun _=>cL hx hy) hw hd rfl k
theorem X.afu[c:SR P N ops R]{t yt:TypeId}{kk:IntKind}{m n:Int}(hx:cN env x=.int kk m)(hy:cN env y=.int kk n)(h:m=n):Y1 N ops R rest env w (.binOp .eql t x y yt) (.bool true):=fun k hw hd=>c.val (fun _=>gL hx hy h) hw hd rfl k
theorem X.afv[c:SR P N ops R]{t yt:TypeId}{kk:IntKind}{m n:Int}(hx:cN env x=.int kk m)(hy:cN env y=.int kk n)(h:¬m=n):Y1 N ops R rest env w (.binOp .eql t x y yt) (.bool false):=fun k hw hd=>c.val (fun _=>iE hx hy h) hw hd rfl k
theorem X.neq[c:SR P N ops R]{t yt:TypeId}{kk:IntKind}{m n:Int}(hx:cN env x=.int kk m)(hy:cN env y=.int kk n):Y1 N ops R rest env w (.binOp .neq t x y yt) (.bool (decide (m≠n))):=fun k hw hd=>c.val (fun _=>e7 hx hy) hw hd rfl k
theorem X.afw[c:SR P N ops R]{t yt:TypeId}{kk:IntKind}{m n:Int}(hx:cN env x=.int kk m)(hy:cN env y=.int kk n)(h:¬m=n):Y1 N ops R rest env w (.binOp .neq t x y yt) (.bool true):=fun k hw hd=>c.val (fun _=>z6 hx hy h) hw hd rfl k
theorem X.afx[c:SR P N ops R]{t yt:TypeId}{kk:IntKind}{m n:Int}(hx:cN env x=.int kk m)(hy:cN env y=.int kk n)(h:m=n):Y1 N ops R rest env w (.binOp .neq t x y yt) (.bool false):=fun k hw hd=>c.val (fun _=>bY hx hy h) hw hd rfl k
theorem X.inc[c:SR P N ops R]{t yt:TypeId}{m:Nat}(hx:cN env x=.int .i64 (m:Int))(hy:cN env y=.int .i64 1)(h:m+1≤9223372036854775807):Y1 N ops R rest env w (.binOp .add t x y yt) (.int .i64 ((m+1:Nat):Int)):=fun k hw hd=>c.val (fun _=>FH hx hy h) hw hd rfl k
theorem X.add[c:SR P N ops R]{t yt:TypeId}{m n:Int}(hx:cN env x=.int .i64 m)(hy:cN env y=.int .i64 n)(h: -9223372036854775808≤m+n)(h2:m+n≤9223372036854775807):Y1 N ops R rest env w (.binOp .add t x y yt) (.int .i64 (m+n)):=fun k hw hd=>c.val (fun _=>di hx hy h h2) hw hd rfl k
theorem X.sub[c:SR P N ops R]{t yt:TypeId}{m n:Int}(hx:cN env x=.int .i64 m)(hy:cN env y=.int .i64 n)(h: -9223372036854775808≤m - n)(h2:m - n≤9223372036854775807):Y1 N ops R rest env w (.binOp .sub t x y yt) (.int .i64 (m - n)):=fun k hw hd=>c.val (fun _=>iq hx hy h h2) hw hd rfl k
theorem X.adN[c:SR P N ops R]{t yt:TypeId}{m n:Nat}(hx:cN env x=.int .i64 (m:Int))(hy:cN env y=.int .i64 (n:Int))(h:m+n≤9223372036854775807):Y1 N ops R rest env w (.binOp .add t x y yt) (.int .i64 ((m+n:Nat):Int)):=fun k hw hd=>c.val (fun _=>gK hx hy h) hw hd rfl k
theorem X.sbN[c:SR P N ops R]{t yt:TypeId}{m n:Nat}(hx:cN env x=.int .i64 (m:Int))(hy:cN env y=.int .i64 (n:Int))(h:n≤m)(h2:m≤9223372036854775807):Y1 N ops R rest env w (.binOp .sub t x y yt) (.int .i64 ((m - n:Nat):Int)):=fun k hw hd=>c.val (fun _=>iD hx hy h h2) hw hd rfl k
theorem X.mlN[c:SR P N ops R]{t yt:TypeId}{m n:Nat}(hx:cN env x=.int .i64 (m:Int))(hy:cN env y=.int .i64 (n:Int))(h:m*n≤9223372036854775807):Y1 N ops R rest env w (.binOp .mul t x y yt) (.int .i64 ((m*n:Nat):Int)):=fun k hw hd=>c.val (fun _=>dr hx hy h) hw hd rfl k
theorem X.cv[c:SR P N ops R]{s t:TypeId}{k2 j:IntKind}{n:Int}{ds:TypeDesc}(hs:P.underlying s=some ds)(hx:cN env x=.int j n)(ht:P.underlying t=some (.int k2))(h:k2.min≤n)(h2:n≤k2.max):Y1 N ops R rest env w (.convert s t x) (.int k2 n):=fun k hw hd=>c.val (fun _=>fC hs ht hx h h2) hw hd rfl k
theorem X.cb[c:SR P N ops R]{s t:TypeId}{j:IntKind}{n:Nat}{ds:TypeDesc}(hs:P.underlying s=some ds)(hx:cN env x=.int j (n:Int))(ht:P.underlying t=some (.int .u8)):Y1 N ops R rest env w (.convert s t x) (.int .u8 ((UInt8.ofNat n).toNat:Int)):=fun k hw hd=>c.val (fun _=>vz hs ht hx) hw hd rfl k
theorem X.bs[c:SR P N ops R]{t:Nat}{ps:List (Nat×Operand)}{z out:List Value}{pl:List (Nat×Nat)}{vs:List (Nat×Value)}[s:nQ P t z pl](hv:ps.map (fun p=>(p.1,cN env p.2))=vs)[q:Tk pl z vs out]:Y1 N ops R rest env w (.build t ps.toArray) (.agg out.toArray):=fun k hw hd=>by
  obtain⟨fs,h1,h2,h3⟩:=s.h;exact c.val (fun _=>aP h1 h2 h3 hv q.h.1 q.h.2) hw hd rfl k
end
theorem qD {A B : Prop} (q : B) (f : Wr B → A := by
  have iQ:=‹On _ _ _›;intro q_
  repeat (first|refine W.region ?_|refine W.seq ?_|refine W.skip ?_|refine W.block ?_|refine W.exit ?_|refine W.label ?_|refine W.scope ?_|refine X.m ?_|refine X.a ?_|refine WL.nil ?_|refine X.fa rfl ?_|refine X.lo iQ rfl ?_|refine X.n rfl ?_|refine X.ex rfl rfl ?_|refine X.s ?_|refine WD.nil ?_|refine X.ld iQ rfl ?_|refine X.lc rfl (On.aS iQ rfl) ?_|refine X.fv rfl rfl ?_|refine X.ln rfl ?_|refine X.fo rfl ?_|refine X.pt rfl ?_|refine X.pf rfl ?_|refine X.nt rfl ?_|refine X.pn (by rfl) rfl rfl ?_|refine X.pq (by rfl) rfl rfl ?_|refine X.ia (by rfl) (by exact fun _=>rfl) rfl rfl (by omega) (by omega) ?_|refine X.ir (by rfl) (by exact fun _=>rfl) rfl rfl (by omega) (by omega) ?_|refine X.mf ?_|refine X.bs (by repeat (first|exact zw|(apply vD;exact NR))) ?_|refine W.cf ?_|refine W.ct ?_|refine X.inc rfl rfl (by omega) ?_|refine X.sub rfl rfl (by omega) (by omega) ?_|refine X.add rfl rfl (by omega) (by omega) ?_|refine X.cv (by rfl) rfl (by rfl) (by(first|(show(0:Int)≤_;omega)|(show(-9223372036854775808:Int)≤_;omega))) (by(first|(show _≤(18446744073709551615:Int);omega)|(show _≤(9223372036854775807:Int);omega)|(show _≤(4294967295:Int);omega)|(show _≤(255:Int);omega))) ?_|refine X.cb (by rfl) rfl (by rfl) ?_|refine X.lss rfl rfl ?_|refine X.leq rfl rfl ?_|refine X.gtr rfl rfl ?_|refine X.geq rfl rfl ?_|refine X.eql rfl rfl ?_|refine X.neq rfl rfl ?_)
  exact q_.o) : A := f ⟨q⟩
theorem qE {A B : Prop} (q : B) (f : Wr B → A := by
  have iQ:=‹On _ _ _›;intro q_
  repeat (first|refine W.region ?_|refine W.seq ?_|refine W.skip ?_|refine W.block ?_|refine W.exit ?_|refine W.label ?_|refine W.scope ?_|refine X.m ?_|refine X.a ?_|refine WL.nil ?_|refine X.fa rfl ?_|refine X.lo iQ rfl ?_|refine X.n rfl ?_|refine X.ex rfl rfl ?_|refine X.s ?_|refine WD.nil ?_|refine X.ld iQ rfl ?_|refine X.lc rfl (On.aS iQ rfl) ?_|refine X.fv rfl rfl ?_|refine X.ln rfl ?_|refine X.fo rfl ?_|refine X.pt rfl ?_|refine X.pf rfl ?_|refine X.nt rfl ?_|refine X.pn (by rfl) rfl rfl ?_|refine X.pq (by rfl) rfl rfl ?_|refine X.ia (by rfl) (by exact fun _=>rfl) rfl rfl (by omega) (by omega) ?_|refine X.ir (by rfl) (by exact fun _=>rfl) rfl rfl (by omega) (by omega) ?_|refine X.mf ?_|refine X.bs (by repeat (first|exact zw|(apply vD;exact NR))) ?_|refine W.cf ?_|refine W.ct ?_|refine X.inc rfl rfl (by omega) ?_|refine X.sub rfl rfl (by omega) (by omega) ?_|refine X.add rfl rfl (by omega) (by omega) ?_|refine X.cv (by rfl) rfl (by rfl) (by(first|(show(0:Int)≤_;omega)|(show(-9223372036854775808:Int)≤_;omega))) (by(first|(show _≤(18446744073709551615:Int);omega)|(show _≤(9223372036854775807:Int);omega)|(show _≤(4294967295:Int);omega)|(show _≤(255:Int);omega))) ?_|refine X.cb (by rfl) rfl (by rfl) ?_|refine X.afm rfl rfl (by first|rfl|omega) ?_|refine X.afn rfl rfl (by first|rfl|omega) ?_|refine X.afo rfl rfl (by first|rfl|omega) ?_|refine X.afp rfl rfl (by first|rfl|omega) ?_|refine X.afq rfl rfl (by first|rfl|omega) ?_|refine X.afr rfl rfl (by first|rfl|omega) ?_|refine X.afs rfl rfl (by first|rfl|omega) ?_|refine X.aft rfl rfl (by first|rfl|omega) ?_|refine X.afu rfl rfl (by first|rfl|omega) ?_|refine X.afv rfl rfl (by first|rfl|omega) ?_|refine X.afw rfl rfl (by first|rfl|omega) ?_|refine X.afx rfl rfl (by first|rfl|omega) ?_|refine X.lss rfl rfl ?_|refine X.leq rfl rfl ?_|refine X.gtr rfl rfl ?_|refine X.geq rfl rfl ?_|refine X.eql rfl rfl ?_|refine X.neq rfl rfl ?_)
  exact q_.o) : A := f ⟨q⟩
theorem qN {A B : Prop} (q : B) (f : Wr B → A := by
  have iQ:=‹On _ _ _›;intro q_
  repeat (first|refine W.region ?_|refine W.seq ?_|refine W.skip ?_|refine W.block ?_|refine W.exit ?_|refine W.label ?_|refine W.scope ?_|refine X.m ?_|refine X.a ?_|refine WL.nil ?_|refine X.fa rfl ?_|refine X.lo iQ rfl ?_|refine X.n rfl ?_|refine X.ex rfl rfl ?_|refine X.s ?_|refine WD.nil ?_|refine X.ld iQ rfl ?_|refine X.lc rfl (On.aS iQ rfl) ?_|refine X.fv rfl rfl ?_|refine X.ln rfl ?_|refine X.fo rfl ?_|refine X.pt rfl ?_|refine X.pf rfl ?_|refine X.nt rfl ?_|refine X.pn (by rfl) rfl rfl ?_|refine X.pq (by rfl) rfl rfl ?_|refine X.ia (by rfl) (by exact fun _=>rfl) rfl rfl (by omega) (by omega) ?_|refine X.ir (by rfl) (by exact fun _=>rfl) rfl rfl (by omega) (by omega) ?_|refine X.mf ?_|refine X.bs (by repeat (first|exact zw|(apply vD;exact NR))) ?_|refine W.cf ?_|refine W.ct ?_|refine X.inc rfl rfl (by omega) ?_|refine X.adN rfl rfl (by omega) ?_|refine X.sbN rfl rfl (by omega) (by omega) ?_|refine X.mlN rfl rfl (by omega) ?_|refine X.cv (by rfl) rfl (by rfl) (by(first|(show(0:Int)≤_;omega)|(show(-9223372036854775808:Int)≤_;omega))) (by(first|(show _≤(18446744073709551615:Int);omega)|(show _≤(9223372036854775807:Int);omega)|(show _≤(4294967295:Int);omega)|(show _≤(255:Int);omega))) ?_|refine X.cb (by rfl) rfl (by rfl) ?_)
  exact q_.o) : A := f ⟨q⟩
theorem qU {A B : Prop} (q : B) (f : Wr B → A := by
  have iQ:=‹On _ _ _›;intro q_
  repeat (first|refine WT.xm ?_|refine WT.xl iQ ?_|refine WT.xf ?_|refine WT.xn ?_|refine WT.xs ?_|refine WT.xp ?_|refine WT.xq ?_|refine WT.xt ?_|refine WT.xa ?_|refine WT.xe ?_|refine WT.xd ?_|refine W.region ?_|refine W.seq ?_|refine W.skip ?_|refine W.block ?_|refine W.exit ?_|refine W.label ?_|refine W.scope ?_|refine X.m ?_|refine X.a ?_|refine WL.nil ?_|refine X.fa rfl ?_|refine X.lo iQ rfl ?_|refine X.n rfl ?_|refine X.ex rfl rfl ?_|refine X.s ?_|refine WD.nil ?_|refine X.ld iQ rfl ?_|refine X.lc rfl (On.aS iQ rfl) ?_|refine X.fv rfl rfl ?_|refine X.ln rfl ?_|refine X.fo rfl ?_|refine X.pt rfl ?_|refine X.pf rfl ?_|refine X.nt rfl ?_|refine X.pn (by rfl) rfl rfl ?_|refine X.pq (by rfl) rfl rfl ?_|refine X.ia (by rfl) (by exact fun _=>rfl) rfl rfl (by omega) (by omega) ?_|refine X.ir (by rfl) (by exact fun _=>rfl) rfl rfl (by omega) (by omega) ?_|refine X.mf ?_|refine X.bs (by repeat (first|exact zw|(apply vD;exact NR))) ?_|refine W.cf ?_|refine W.ct ?_)
  exact q_.o) : A := f ⟨q⟩
theorem qR {A B : Prop} (q : B) (f : Wr B → A := by
  intro q_;refine qD ?_;have iQ:=‹On _ _ _›
  first
  |refine W.ret ?_
  |refine bf.yW ?_
  first
  |exact bf.r0 (by rfl) q_.o
  |exact bf.r1 (by rfl) NR q_.o
  |exact bf.r2 (by rfl) NR NR q_.o
  |exact bf.r3 (by rfl) NR NR NR q_.o
  |exact bf.uA iQ rfl ew.h gj.h rfl zNl rfl q_.o
  | exact bf.rX iQ rfl ew.h gj.h rfl zNl rfl NR q_.o) : A := f ⟨q⟩
theorem qS {A B : Prop} (q : B) (f : Wr B → A := by
  intro q_;refine qD ?_;have iQ:=‹On _ _ _›
  first
  |exact X.st (v:=.int _ _) iQ rfl rfl rfl q_.o
  |exact X.st (v:=.slice _ _ _) iQ rfl rfl rfl q_.o
  |exact X.st (v:=.pointer _) iQ rfl rfl rfl q_.o
  |exact X.st (v:=.bool _) iQ rfl rfl rfl q_.o
  |exact X.st (v:=.map _) iQ rfl rfl rfl q_.o
  |exact X.st (v:=.string _) iQ rfl rfl rfl q_.o
  | exact X.sn iQ rfl rfl rfl rfl q_.o) : A := f ⟨q⟩
theorem qB {A B : Prop} (q : B) (f : Wr B → A := by
  intro q_;refine qD ?_;have iQ:=‹On _ _ _›
  first
  |exact X.al iQ q_.o
  |exact X.bx rfl iQ q_.o
  |exact X.b1 (v:=.slice _ _ _) rfl rfl iQ q_.o
  |exact X.b1 (v:=.int _ _) rfl rfl iQ q_.o
  |exact X.b1 (v:=.pointer _) rfl rfl iQ q_.o
  |exact X.b1 (v:=.map _) rfl rfl iQ q_.o
  |exact X.b1 (v:=.bool _) rfl rfl iQ q_.o
  |exact X.b1 (v:=.string _) rfl rfl iQ q_.o
  | exact X.b1 (v := .func _ _ _) rfl rfl iQ q_.o) : A := f ⟨q⟩
theorem qI {A B C : Prop} (q : B) (r : C) (f : Wr B → Wr C → A := by
  intro q_ r_;refine qD ?_
  first
  |exact W.lN rfl q_.o r_.o
  |exact W.aao rfl q_.o r_.o
  |exact X.q (fun _=>cH rfl rfl) q_.o r_.o
  |exact X.q (fun _=>jR rfl rfl) q_.o r_.o
  |exact X.q (fun _=>iU rfl rfl) q_.o r_.o
  |exact X.q (fun _=>eA rfl rfl) q_.o r_.o
  |exact X.q (fun _=>cL rfl rfl) q_.o r_.o
  |exact X.q (fun _=>e7 rfl rfl) q_.o r_.o
  | exact X.q (fun _ => ey rfl) q_.o r_.o) : A := f ⟨q⟩ ⟨r⟩
theorem qC {A B : Prop} {P : Program} {f : FuncId} {aq : Array Value} {w : World} {Q : Value → World → Prop} (q : B) (t : Calls P f aq w (wU Q) → Wr B → A := by
  intro c_ q_;refine qD ?_;exact X.e (ag (fun _ _ => rfl) c_) q_.o) (C : Calls P f aq w (wU Q)) : A := t C ⟨q⟩
theorem qT {A : Prop} {W0 : World} {L : List aC} {B : World → Prop} (q : ∀ w, On W0 L w → B w) (f : Wr (∀ w, On W0 L w → B w) → A := by
  intro q_;refine go ?_;have iQ := ‹On _ _ _›;refine W.draw (by rfl) iQ (fun w_ h_ => ?_);clear iQ;refine qU ?_;exact q_.o w_ h_) : A := f ⟨q⟩
theorem qG {A : Prop} {W0 : World} {L : List aC} {B : World → Prop} (q : ∀ w, On W0 L w → B w) (f : Wr (∀ w, On W0 L w → B w) → A := by
  intro q_;refine go ?_;have iQ := ‹On _ _ _›;refine W.ez (by rfl) iQ (by kernel_rfl) fun w_ h_ => ?_;clear iQ;refine qD ?_;exact q_.o w_ h_) : A := f ⟨q⟩
theorem fz{pl:List (Nat×Nat)}{n:Nat}{vs:List (Nat×Value)}(h:fits pl n vs:=by repeat (first|exact trivial|refine⟨⟨_,_,rfl,rfl,by decide⟩, ?_⟩)):fits pl n vs:=h
theorem qW{A B:Prop}(q:B)(a:A:=by repeat (first|exact trivial|refine⟨On.aS ‹On _ _ _› rfl, ?_⟩)):A∧B:=⟨a,q⟩
theorem fl{P:Program}{s fi off:Nat}(h:∃fs f n,P.underlying s=some (.struct fs)∧fs[fi]? =some f∧(∀w,(sizeOf f.type).run P w=.ok (n+1) w)∧f.offset=off:=by exact⟨_,_,_,rfl,rfl,fun _=>rfl,rfl⟩):bh P s fi off:=⟨h⟩
theorem pls{P:Program}{t:Nat}{z:List Value}{pl:List (Nat×Nat)}{fs:Array Field}(hz:∀w,(zeroValue t).run P w=.ok (.agg z.toArray) w)(hu:P.underlying t=some (.struct fs):=by rfl)(hp:∀w,((fs.mapM fun f=>do pure (f.offset,←sizeOf f.type):Sem (Array (Nat×Nat)))).run P w=.ok pl.toArray w:=by exact fun _=>by kernel_rfl):nQ P t z pl:=⟨fs,hu,hz,hp⟩
class VF(L T:List aC):Prop where
  out:∀h,Sat L h→Sat T h
theorem VF.yZ{L:List aC}:VF L L:=⟨fun _ h=>h⟩
theorem VF.cons{L L' T:List aC}{A:aC}(p:Ad L A L')(t:VF L' T):VF L (A::T):=⟨fun h H=>(p.out h H).aI t.out⟩
theorem On.g {W0 w : World} {L T : List aC} (H : On W0 L w) (t : VF L T := by
  repeat (first | with_reducible exact VF.yZ | with_reducible exact Ad.here | with_reducible refine Ad.there ?_ | with_reducible refine VF.cons ?_ ?_)) : On W0 T w := H.imp t.out
end Go.Sl
namespace Go.Proofs.YtcplmndikhjehaaGreat
open Go Go.Sl Go.Proofs.Tryz
set_option maxRecDepth 8000
instance:bh prog 32 0 0:=fl
instance:bh prog 32 1 1:=fl
instance:bh prog 32 2 2:=fl
instance:bh prog 32 3 3:=fl
instance:bh prog 32 4 4:=fl
instance:bh prog 32 5 5:=fl
instance:bh prog 32 6 6:=fl
instance:bh prog 34 0 0:=fl
instance:bh prog 34 1 1:=fl
instance:bh prog 34 2 2:=fl
instance:bh prog 34 3 3:=fl
instance:bh prog 34 4 11:=fl
instance:bh prog 38 0 0:=fl
instance:bh prog 38 1 1:=fl
instance:bh prog 38 2 2:=fl
instance:bh prog 38 3 3:=fl
instance:bh prog 38 4 4:=fl
instance:bh prog 60 0 0:=fl
instance:bh prog 60 2 2:=fl
instance:bh prog 60 3 3:=fl
instance:bh prog 60 4 6:=fl
instance:bh prog 60 5 8:=fl
instance:bh prog 60 6 9:=fl
instance:bh prog 60 7 10:=fl
instance:bh prog 60 8 11:=fl
instance:bh prog 60 9 12:=fl
instance:bh prog 60 10 13:=fl
instance:bh prog 60 11 14:=fl
instance:bh prog 71 0 0:=fl
instance:bh prog 71 1 1:=fl
instance:bh prog 71 2 2:=fl
instance:bh prog 75 0 0:=fl
instance:bh prog 75 1 1:=fl
instance:bh prog 75 2 2:=fl
instance:bh prog 75 3 7:=fl
instance:bh prog 82 0 0:=fl
instance:bh prog 82 1 1:=fl
instance:bh prog 82 2 2:=fl
instance:bh prog 96 0 0:=fl
instance:bh prog 96 1 1:=fl
instance:bh prog 96 2 2:=fl
instance:bh prog 96 3 10:=fl
instance:bh prog 103 0 0:=fl
instance:bh prog 103 1 1:=fl
instance:bh prog 103 2 2:=fl
instance:bh prog 103 3 3:=fl
instance:bh prog 103 4 4:=fl
instance:bh prog 103 5 5:=fl
instance:bh prog 103 6 6:=fl
instance:bh prog 106 0 0:=fl
instance:bh prog 106 1 1:=fl
instance:bh prog 106 2 2:=fl
instance:bh prog 109 0 0:=fl
instance:bh prog 109 1 1:=fl
instance:bh prog 109 2 2:=fl
instance:bh prog 109 3 3:=fl
instance:bh prog 109 4 4:=fl
instance:bh prog 109 5 5:=fl
instance:bh prog 109 6 6:=fl
instance:bh prog 125 0 0:=fl
instance:bh prog 125 1 1:=fl
instance:bh prog 125 2 2:=fl
instance:bh prog 126 0 0:=fl
instance:bh prog 126 1 1:=fl
instance:bh prog 127 0 0:=fl
instance:bh prog 127 1 1:=fl
instance:bh prog 135 0 0:=fl
instance:bh prog 139 0 0:=fl
instance:bh prog 139 1 1:=fl
instance:bh prog 144 0 0:=fl
instance:bh prog 144 1 1:=fl
instance:bh prog 144 2 2:=fl
instance:bh prog 144 3 3:=fl
instance:bh prog 144 4 4:=fl
instance:bh prog 144 5 5:=fl
instance:bh prog 144 6 6:=fl
instance:bh prog 152 0 0:=fl
instance:bh prog 152 2 2:=fl
instance:bh prog 152 3 3:=fl
instance:bh prog 152 4 10:=fl
instance:bh prog 152 5 11:=fl
instance:bh prog 166 1 1:=fl
instance:bh prog 166 2 2:=fl
instance:bh prog 177 0 0:=fl
instance:bh prog 177 1 1:=fl
instance:bh prog 177 2 2:=fl
instance:bh prog 177 3 3:=fl
instance:bh prog 177 4 4:=fl
instance:bh prog 177 5 5:=fl
instance:bh prog 180 0 0:=fl
instance:bh prog 180 1 1:=fl
instance:bh prog 180 2 2:=fl
instance:bh prog 180 3 3:=fl
instance:bh prog 180 7 7:=fl
instance:bh prog 182 0 0:=fl
instance:bh prog 182 1 1:=fl
instance:bh prog 182 2 2:=fl
instance:bh prog 182 4 4:=fl
instance:bh prog 182 5 5:=fl
instance:bh prog 182 6 6:=fl
instance:bh prog 182 7 7:=fl
instance:bh prog 182 8 8:=fl
instance:bh prog 182 9 9:=fl
instance:bh prog 182 10 10:=fl
instance:bh prog 182 11 11:=fl
instance:bh prog 182 12 12:=fl
instance:bh prog 182 13 13:=fl
instance:bh prog 182 14 16:=fl
instance:bh prog 182 15 17:=fl
instance:bh prog 182 16 18:=fl
instance:bh prog 182 17 19:=fl
instance:bh prog 182 18 20:=fl
instance:bh prog 182 19 21:=fl
instance:bh prog 182 20 27:=fl
instance:bh prog 184 1 1:=fl
instance:bh prog 184 2 2:=fl
instance:bh prog 204 0 0:=fl
instance:bh prog 204 1 1:=fl
instance:bh prog 204 2 2:=fl
instance:bh prog 204 3 3:=fl
instance:bh prog 217 0 0:=fl
instance:bh prog 217 1 1:=fl
instance:bh prog 217 2 2:=fl
instance:bh prog 221 0 0:=fl
instance:bh prog 221 1 1:=fl
instance:bh prog 225 1 1:=fl
instance:bh prog 233 0 0:=fl
instance:bh prog 233 1 1:=fl
instance:bh prog 233 2 2:=fl
instance:bh prog 236 1 1:=fl
instance:bh prog 236 2 2:=fl
instance:bh prog 241 0 0:=fl
instance:bh prog 241 1 1:=fl
instance:bh prog 253 0 0:=fl
instance:bh prog 253 1 1:=fl
instance:bh prog 253 2 2:=fl
instance:bh prog 286 0 0:=fl
instance:bh prog 286 1 1:=fl
instance:bh prog 286 2 2:=fl
instance:bh prog 293 0 0:=fl
instance:bh prog 293 1 1:=fl
instance:bh prog 293 2 2:=fl
instance:bh prog 305 1 8:=fl
instance:bh prog 311 0 0:=fl
instance:bh prog 311 1 1:=fl
instance:bh prog 311 2 2:=fl
instance:bh prog 311 3 3:=fl
instance:bh prog 311 4 4:=fl
instance:bh prog 311 5 5:=fl
instance:bh prog 311 6 6:=fl
instance:bh prog 311 7 7:=fl
instance:bh prog 321 0 0:=fl
instance:bh prog 321 1 1:=fl
instance:bh prog 321 2 2:=fl
instance:bh prog 323 1 8:=fl
instance:bh prog 341 0 0:=fl
instance:bh prog 341 1 1:=fl
instance:bh prog 341 2 2:=fl
instance:bh prog 341 3 3:=fl
instance:bh prog 341 4 4:=fl
instance:bh prog 341 5 5:=fl
instance:bh prog 341 6 6:=fl
instance:bh prog 341 7 7:=fl
instance:bh prog 346 0 0:=fl
instance:bh prog 346 1 1:=fl
instance:bh prog 354 0 0:=fl
instance:bh prog 354 1 1:=fl
instance:bh prog 354 2 2:=fl
instance:bh prog 354 3 3:=fl
instance:bh prog 354 4 4:=fl
instance:bh prog 354 5 5:=fl
instance:bh prog 354 6 6:=fl
instance:bh prog 354 7 7:=fl
instance:bh prog 388 0 0:=fl
instance:bh prog 388 1 1:=fl
instance:bh prog 388 2 2:=fl
instance:bh prog 388 3 3:=fl
instance:oW prog 22:=⟨_,underlying22⟩
instance:oW prog 28:=⟨_,underlying28⟩
instance:oW prog 41:=⟨_,underlying41⟩
instance:oW prog 45:=⟨_,underlying45⟩
instance:oW prog 47:=⟨_,underlying47⟩
instance:oW prog 76:=⟨_,underlying76⟩
instance:oW prog 84:=⟨_,underlying84⟩
instance:oW prog 85:=⟨_,underlying85⟩
instance:oW prog 86:=⟨_,underlying86⟩
instance:oW prog 99:=⟨_,underlying99⟩
instance:oW prog 100:=⟨_,underlying100⟩
instance:oW prog 101:=⟨_,underlying101⟩
instance:oW prog 104:=⟨_,underlying104⟩
instance:oW prog 137:=⟨_,underlying137⟩
instance:oW prog 150:=⟨_,underlying150⟩
instance:oW prog 160:=⟨_,underlying160⟩
instance:oW prog 171:=⟨_,underlying171⟩
instance:oW prog 212:=⟨_,underlying212⟩
instance:oW prog 309:=⟨_,underlying309⟩
instance:oW prog 318:=⟨_,underlying318⟩
instance:gj prog 3 1:=⟨sizeOf3⟩
instance:gj prog 4 1:=⟨sizeOf4⟩
instance:gj prog 28 1:=⟨sizeOf28⟩
instance:gj prog 30 1:=⟨sizeOf30⟩
instance:gj prog 32 8:=⟨sizeOf32⟩
instance:gj prog 34 13:=⟨sizeOf34⟩
instance:gj prog 38 5:=⟨sizeOf38⟩
instance:gj prog 51 1:=⟨sizeOf51⟩
instance:gj prog 56 1:=⟨sizeOf56⟩
instance:gj prog 57 1:=⟨sizeOf57⟩
instance:gj prog 58 1:=⟨sizeOf58⟩
instance:gj prog 71 3:=⟨sizeOf71⟩
instance:gj prog 99 1:=⟨sizeOf99⟩
instance:gj prog 100 1:=⟨sizeOf100⟩
instance:gj prog 101 1:=⟨sizeOf101⟩
instance:gj prog 104 1:=⟨sizeOf104⟩
instance:gj prog 110 1:=⟨sizeOf110⟩
instance:gj prog 135 9:=⟨sizeOf135⟩
instance:gj prog 137 1:=⟨sizeOf137⟩
instance:gj prog 144 7:=⟨sizeOf144⟩
instance:gj prog 149 1:=⟨sizeOf149⟩
instance:gj prog 150 1:=⟨sizeOf150⟩
instance:gj prog 167 1:=⟨sizeOf167⟩
instance:gj prog 171 1:=⟨sizeOf171⟩
instance:gj prog 173 1:=⟨sizeOf173⟩
instance:gj prog 177 6:=⟨sizeOf177⟩
instance:gj prog 180 8:=⟨sizeOf180⟩
instance:gj prog 184 3:=⟨sizeOf184⟩
instance:gj prog 212 1:=⟨sizeOf212⟩
instance:gj prog 217 3:=⟨sizeOf217⟩
instance:gj prog 233 3:=⟨sizeOf233⟩
instance:gj prog 250 6:=⟨sizeOf250⟩
instance:gj prog 253 11:=⟨sizeOf253⟩
instance:gj prog 256 2:=⟨sizeOf256⟩
instance:gj prog 341 8:=⟨sizeOf341⟩
instance:gj prog 346 2:=⟨sizeOf346⟩
instance:gj prog 388 11:=⟨sizeOf388⟩
instance:gj prog 393 2:=⟨sizeOf393⟩
instance:ew prog 3 false:=⟨isAgg3⟩
instance:ew prog 4 false:=⟨isAgg4⟩
instance:ew prog 5 false:=⟨isAgg5⟩
instance:ew prog 22 false:=⟨isAgg22⟩
instance:ew prog 28 false:=⟨isAgg28⟩
instance:ew prog 30 false:=⟨isAgg30⟩
instance:ew prog 32 true:=⟨isAgg32⟩
instance:ew prog 34 true:=⟨isAgg34⟩
instance:ew prog 38 true:=⟨isAgg38⟩
instance:ew prog 45 false:=⟨isAgg45⟩
instance:ew prog 47 false:=⟨isAgg47⟩
instance:ew prog 50 false:=⟨isAgg50⟩
instance:ew prog 51 false:=⟨isAgg51⟩
instance:ew prog 52 false:=⟨isAgg52⟩
instance:ew prog 56 false:=⟨isAgg56⟩
instance:ew prog 57 false:=⟨isAgg57⟩
instance:ew prog 58 false:=⟨isAgg58⟩
instance:ew prog 61 false:=⟨isAgg61⟩
instance:ew prog 71 true:=⟨isAgg71⟩
instance:ew prog 97 false:=⟨isAgg97⟩
instance:ew prog 99 false:=⟨isAgg99⟩
instance:ew prog 100 false:=⟨isAgg100⟩
instance:ew prog 101 false:=⟨isAgg101⟩
instance:ew prog 104 false:=⟨isAgg104⟩
instance:ew prog 107 false:=⟨isAgg107⟩
instance:ew prog 110 false:=⟨isAgg110⟩
instance:ew prog 135 true:=⟨isAgg135⟩
instance:ew prog 137 false:=⟨isAgg137⟩
instance:ew prog 144 true:=⟨isAgg144⟩
instance:ew prog 149 false:=⟨isAgg149⟩
instance:ew prog 150 false:=⟨isAgg150⟩
instance:ew prog 170 false:=⟨isAgg170⟩
instance:ew prog 171 false:=⟨isAgg171⟩
instance:ew prog 172 false:=⟨isAgg172⟩
instance:ew prog 173 false:=⟨isAgg173⟩
instance:ew prog 174 false:=⟨isAgg174⟩
instance:ew prog 175 false:=⟨isAgg175⟩
instance:ew prog 184 true:=⟨isAgg184⟩
instance:ew prog 212 false:=⟨isAgg212⟩
instance:ew prog 217 true:=⟨isAgg217⟩
instance:ew prog 229 false:=⟨isAgg229⟩
instance:ew prog 276 false:=⟨isAgg276⟩
instance:ew prog 279 false:=⟨isAgg279⟩
instance:ew prog 309 false:=⟨isAgg309⟩
instance:ew prog 318 false:=⟨isAgg318⟩
instance:ew prog 341 true:=⟨isAgg341⟩
instance:ew prog 346 true:=⟨isAgg346⟩
instance:ew prog 388 true:=⟨isAgg388⟩
instance:ew prog 393 true:=⟨isAgg393⟩
instance:bh prog 32 7 7:=fl
instance:bh prog 34 5 12:=fl
instance:bh prog 60 1 1:=fl
instance:bh prog 125 3 10:=fl
instance:bh prog 126 2 2:=fl
instance:bh prog 127 2 2:=fl
instance:bh prog 127 3 7:=fl
instance:bh prog 135 1 1:=fl
instance:bh prog 152 1 1:=fl
instance:bh prog 166 0 0:=fl
instance:bh prog 180 4 4:=fl
instance:bh prog 180 5 5:=fl
instance:bh prog 180 6 6:=fl
instance:bh prog 182 3 3:=fl
instance:bh prog 184 0 0:=fl
instance:bh prog 225 0 0:=fl
instance:bh prog 236 0 0:=fl
instance:bh prog 250 0 0:=fl
instance:bh prog 250 1 1:=fl
instance:bh prog 256 0 0:=fl
instance:bh prog 256 1 1:=fl
instance:bh prog 305 0 0:=fl
instance:bh prog 305 2 9:=fl
instance:bh prog 305 3 10:=fl
instance:bh prog 323 0 0:=fl
instance:bh prog 323 2 9:=fl
instance:bh prog 323 3 10:=fl
instance:bh prog 326 0 0:=fl
instance:bh prog 326 1 1:=fl
instance:bh prog 371 0 0:=fl
instance:bh prog 371 1 1:=fl
instance:bh prog 377 0 0:=fl
instance:bh prog 377 1 1:=fl
instance:bh prog 457 0 0:=fl
instance:bh prog 457 1 1:=fl
instance:oW prog 295:=⟨_,underlying295⟩
instance:oW prog 379:=⟨_,underlying379⟩
instance:oW prog 443:=⟨_,underlying443⟩
instance:gj prog 5 1:=⟨sizeOf5⟩
instance:gj prog 22 1:=⟨sizeOf22⟩
instance:gj prog 45 1:=⟨sizeOf45⟩
instance:gj prog 47 1:=⟨sizeOf47⟩
instance:gj prog 52 1:=⟨sizeOf52⟩
instance:gj prog 54 1:=⟨sizeOf54⟩
instance:gj prog 76 1:=⟨sizeOf76⟩
instance:gj prog 82 3:=⟨sizeOf82⟩
instance:gj prog 172 1:=⟨sizeOf172⟩
instance:gj prog 178 1:=⟨sizeOf178⟩
instance:gj prog 226 1:=⟨sizeOf226⟩
instance:gj prog 229 1:=⟨sizeOf229⟩
instance:gj prog 231 1:=⟨sizeOf231⟩
instance:gj prog 234 24:=⟨sizeOf234⟩
instance:gj prog 282 8:=⟨sizeOf282⟩
instance:gj prog 309 1:=⟨sizeOf309⟩
instance:gj prog 323 11:=⟨sizeOf323⟩
instance:gj prog 358 1:=⟨sizeOf358⟩
instance:gj prog 381 2:=⟨sizeOf381⟩
instance:gj prog 411 16:=⟨sizeOf411⟩
instance:gj prog 457 2:=⟨sizeOf457⟩
instance:ew prog 54 false:=⟨isAgg54⟩
instance:ew prog 76 false:=⟨isAgg76⟩
instance:ew prog 140 false:=⟨isAgg140⟩
instance:ew prog 156 false:=⟨isAgg156⟩
instance:ew prog 162 false:=⟨isAgg162⟩
instance:ew prog 167 false:=⟨isAgg167⟩
instance:ew prog 178 false:=⟨isAgg178⟩
instance:ew prog 226 false:=⟨isAgg226⟩
instance:ew prog 231 false:=⟨isAgg231⟩
instance:ew prog 233 true:=⟨isAgg233⟩
instance:ew prog 234 true:=⟨isAgg234⟩
instance:ew prog 250 true:=⟨isAgg250⟩
instance:ew prog 253 true:=⟨isAgg253⟩
instance:ew prog 256 true:=⟨isAgg256⟩
instance:ew prog 282 true:=⟨isAgg282⟩
instance:ew prog 323 true:=⟨isAgg323⟩
instance:ew prog 358 false:=⟨isAgg358⟩
instance:ew prog 381 true:=⟨isAgg381⟩
instance:ew prog 411 true:=⟨isAgg411⟩
instance:ew prog 457 true:=⟨isAgg457⟩
instance:r8 prog 3 [.int .i64 0]:=⟨_,zeroValue3,rfl⟩
instance:r8 prog 28 [.slice none 0 0]:=⟨_,zeroValue28,rfl⟩
instance:r8 prog 38 [.int .i64 0,.int .i64 0,.int .i64 0,.slice none 0 0,.int .i64 0]:=⟨_,zeroValue38,rfl⟩
instance:r8 prog 71 [.int .u64 0,.int .i64 0,.int .i64 0]:=⟨_,zeroValue71,rfl⟩
instance:r8 prog 135 [.int .u64 0,.int .i64 0,.int .i64 0,.int .i64 0,.slice none 0 0,.int .u64 0,.int .u64 0,.int .i64 0,.bool false]:=⟨_,zeroValue135,rfl⟩
instance:r8 prog 144 [.int .u64 0,.int .u32 0,.int .i64 0,.int .u64 0,.int .i64 0,.int .u64 0,.int .i64 0]:=⟨_,zeroValue144,rfl⟩
instance:r8 prog 184 [.int .i64 0,.int .i64 0,.slice none 0 0]:=⟨_,zeroValue184,rfl⟩
instance:r8 prog 217 [.int .u64 0,.int .u64 0,.slice none 0 0]:=⟨_,zeroValue217,rfl⟩
instance:r8 prog 233 [.slice none 0 0,.int .u64 0,.map none]:=⟨_,zeroValue233,rfl⟩
instance:r8 prog 250 [.int .u64 0,.int .i64 0,.int .i64 0,.int .i64 0,.slice none 0 0,.int .i64 0]:=⟨_,zeroValue250,rfl⟩
instance:r8 prog 253 [.int .u64 0,.int .i64 0,.int .u64 0,.int .i64 0,.int .i64 0,.int .i64 0,.slice none 0 0,.int .u64 0,.int .u64 0,.int .i64 0,.bool false]:=⟨_,zeroValue253,rfl⟩
instance:r8 prog 256 [.int .i64 0,.slice none 0 0]:=⟨_,zeroValue256,rfl⟩
instance:r8 prog 341 [.int .i64 0,.int .u64 0,.int .u64 0,.int .u64 0,.int .u64 0,.int .u64 0,.int .u64 0,.slice none 0 0]:=⟨_,zeroValue341,rfl⟩
instance:r8 prog 388 [.int .i64 0,.int .u64 0,.int .u64 0,.int .i64 0,.int .i64 0,.int .i64 0,.slice none 0 0,.int .u64 0,.int .u64 0,.int .i64 0,.bool false]:=⟨_,zeroValue388,rfl⟩
instance:r8 prog 393 [.int .i64 0,.int .u64 0]:=⟨_,zeroValue393,rfl⟩
instance:r8 prog 411 [.int .u32 0,.int .u32 0,.int .u32 0,.int .u32 0,.int .u32 0,.int .u32 0,.int .u32 0,.int .u32 0,.int .u32 0,.int .u32 0,.int .u32 0,.int .u32 0,.int .u32 0,.int .u32 0,.int .u32 0,.int .u32 0]:=⟨_,zeroValue411,rfl⟩
instance:r8 prog 82 [.int .i64 0,.int .u64 0,.int .i64 0]:=⟨_,zeroValue82,rfl⟩
instance:r8 prog 323 [.int .u64 0,.int .u64 0,.int .u64 0,.int .u64 0,.int .u64 0,.int .u64 0,.int .u64 0,.int .u64 0,.int .i64 0,.int .i64 0,.int .u32 0]:=⟨_,zeroValue323,rfl⟩
instance:r8 prog 346 [.int .i64 0,.int .i64 0]:=⟨_,zeroValue346,rfl⟩
instance:r8 prog 358 [.int .u64 0]:=⟨_,zeroValue358,rfl⟩
instance:r8 prog 381 [.int .i64 0,.int .i64 0]:=⟨_,zeroValue381,rfl⟩
instance:r8 prog 457 [.int .i64 0,.int .i64 0]:=⟨_,zeroValue457,rfl⟩
theorem Tryz.follows:Tryz.prog.follows .mixedOrders=true:=by kernel_rfl
abbrev Cs(f:Nat)(xs:List Value)(w:World)(R:Value→World→Prop):Prop:=Calls Go.Proofs.Tryz.prog f xs.toArray w (wU R)
instance:nQ prog 32 [.int .i64 0,.int .i64 0,.int .i64 0,.slice none 0 0,.int .u64 0,.int .u64 0,.int .i64 0,.bool false] [(0,1),(1,1),(2,1),(3,1),(4,1),(5,1),(6,1),(7,1)]:=⟨_,underlying32,zeroValue32,fun _=>by kernel_rfl⟩
instance:nQ prog 34 [.int .i64 0,.int .i64 0,.int .i64 0,.int .i64 0,.int .i64 0,.int .i64 0,.slice none 0 0,.int .u64 0,.int .u64 0,.int .i64 0,.bool false,.slice none 0 0,.slice none 0 0] [(0,1),(1,1),(2,1),(3,8),(11,1),(12,1)]:=⟨_,underlying34,zeroValue34,fun _=>by kernel_rfl⟩
instance:nQ prog 38 [.int .i64 0,.int .i64 0,.int .i64 0,.slice none 0 0,.int .i64 0] [(0,1),(1,1),(2,1),(3,1),(4,1)]:=⟨_,underlying38,zeroValue38,fun _=>by kernel_rfl⟩
instance:nQ prog 60 [.int .i64 0,.int .i64 0,.slice none 0 0,.pointer none,.pointer none,.pointer none,.pointer none,.pointer none,.pointer none,.pointer none,.int .i64 0,.int .u32 0,.slice none 0 0,.map none,.slice none 0 0] [(0,1),(1,1),(2,1),(3,3),(6,2),(8,1),(9,1),(10,1),(11,1),(12,1),(13,1),(14,1)]:=⟨_,underlying60,zeroValue60,fun _=>by kernel_rfl⟩
instance:nQ prog 71 [.int .u64 0,.int .i64 0,.int .i64 0] [(0,1),(1,1),(2,1)]:=⟨_,underlying71,zeroValue71,fun _=>by kernel_rfl⟩
instance:nQ prog 75 [.int .i64 0,.int .u64 0,.int .i64 0,.int .i64 0,.int .i64 0,.slice none 0 0,.int .i64 0,.int .i64 0] [(0,1),(1,1),(2,5),(7,1)]:=⟨_,underlying75,zeroValue75,fun _=>by kernel_rfl⟩
instance:nQ prog 82 [.int .i64 0,.int .u64 0,.int .i64 0] [(0,1),(1,1),(2,1)]:=⟨_,underlying82,zeroValue82,fun _=>by kernel_rfl⟩
instance:nQ prog 96 [.int .i64 0,.int .u64 0,.int .i64 0,.int .i64 0,.int .i64 0,.slice none 0 0,.int .u64 0,.int .u64 0,.int .i64 0,.bool false,.int .i64 0] [(0,1),(1,1),(2,8),(10,1)]:=⟨_,underlying96,zeroValue96,fun _=>by kernel_rfl⟩
instance:nQ prog 103 [.int .i64 0,.int .i64 0,.int .u64 0,.slice none 0 0,.slice none 0 0,.slice none 0 0,.pointer none] [(0,1),(1,1),(2,1),(3,1),(4,1),(5,1),(6,1)]:=⟨_,underlying103,zeroValue103,fun _=>by kernel_rfl⟩
instance:nQ prog 106 [.int .i64 0,.slice none 0 0,.int .i64 0] [(0,1),(1,1),(2,1)]:=⟨_,underlying106,zeroValue106,fun _=>by kernel_rfl⟩
instance:nQ prog 109 [.int .i64 0,.map none,.bool false,.bool false,.int .i64 0,.slice none 0 0,.int .i64 0] [(0,1),(1,1),(2,1),(3,1),(4,1),(5,1),(6,1)]:=⟨_,underlying109,zeroValue109,fun _=>by kernel_rfl⟩
instance:nQ prog 125 [.int .i64 0,.int .u64 0,.int .i64 0,.int .i64 0,.int .i64 0,.slice none 0 0,.int .u64 0,.int .u64 0,.int .i64 0,.bool false,.int .i64 0] [(0,1),(1,1),(2,8),(10,1)]:=⟨_,underlying125,zeroValue125,fun _=>by kernel_rfl⟩
instance:nQ prog 126 [.int .i64 0,.int .u64 0,.int .i64 0] [(0,1),(1,1),(2,1)]:=⟨_,underlying126,zeroValue126,fun _=>by kernel_rfl⟩
instance:nQ prog 127 [.int .i64 0,.int .u64 0,.int .i64 0,.int .i64 0,.int .i64 0,.slice none 0 0,.int .i64 0,.int .i64 0] [(0,1),(1,1),(2,5),(7,1)]:=⟨_,underlying127,zeroValue127,fun _=>by kernel_rfl⟩
instance:nQ prog 135 [.int .u64 0,.int .i64 0,.int .i64 0,.int .i64 0,.slice none 0 0,.int .u64 0,.int .u64 0,.int .i64 0,.bool false] [(0,1),(1,8)]:=⟨_,underlying135,zeroValue135,fun _=>by kernel_rfl⟩
instance:nQ prog 139 [.slice none 0 0,.int .i64 0] [(0,1),(1,1)]:=⟨_,underlying139,zeroValue139,fun _=>by kernel_rfl⟩
instance:nQ prog 144 [.int .u64 0,.int .u32 0,.int .i64 0,.int .u64 0,.int .i64 0,.int .u64 0,.int .i64 0] [(0,1),(1,1),(2,1),(3,1),(4,1),(5,1),(6,1)]:=⟨_,underlying144,zeroValue144,fun _=>by kernel_rfl⟩
instance:nQ prog 152 [.pointer none,.pointer none,.pointer none,.int .u64 0,.int .u32 0,.int .i64 0,.int .u64 0,.int .i64 0,.int .u64 0,.int .i64 0,.slice none 0 0,.slice none 0 0] [(0,1),(1,1),(2,1),(3,7),(10,1),(11,1)]:=⟨_,underlying152,zeroValue152,fun _=>by kernel_rfl⟩
instance:nQ prog 166 [.pointer none,.slice none 0 0,.bool false] [(0,1),(1,1),(2,1)]:=⟨_,underlying166,zeroValue166,fun _=>by kernel_rfl⟩
instance:nQ prog 177 [.pointer none,.bool false,.pointer none,.int .i64 0,.map none,.map none] [(0,1),(1,1),(2,1),(3,1),(4,1),(5,1)]:=⟨_,underlying177,zeroValue177,fun _=>by kernel_rfl⟩
instance:nQ prog 180 [.int .u64 0,.int .u64 0,.int .u32 0,.bool false,.slice none 0 0,.map none,.int .u64 0,.int .i64 0] [(0,1),(1,1),(2,1),(3,1),(4,1),(5,1),(6,1),(7,1)]:=⟨_,underlying180,zeroValue180,fun _=>by kernel_rfl⟩
instance:nQ prog 182 [.int .i64 0,.int .i64 0,.int .u32 0,.pointer none,.pointer none,.bool false,.int .i64 0,.slice none 0 0,.slice none 0 0,.pointer none,.int .u64 0,.int .u64 0,.int .u64 0,.int .u64 0,.int .i64 0,.int .i64 0,.bool false,.map none,.int .i64 0,.bool false,.int .u32 0,.pointer none,.bool false,.pointer none,.int .i64 0,.map none,.map none,.int .u64 0,.int .u64 0,.int .u32 0,.bool false,.slice none 0 0,.map none,.int .u64 0,.int .i64 0] [(0,1),(1,1),(2,1),(3,1),(4,1),(5,1),(6,1),(7,1),(8,1),(9,1),(10,1),(11,1),(12,1),(13,3),(16,1),(17,1),(18,1),(19,1),(20,1),(21,6),(27,8)]:=⟨_,underlying182,zeroValue182,fun _=>by kernel_rfl⟩
instance:nQ prog 184 [.int .i64 0,.int .i64 0,.slice none 0 0] [(0,1),(1,1),(2,1)]:=⟨_,underlying184,zeroValue184,fun _=>by kernel_rfl⟩
instance:nQ prog 204 [.pointer none,.int .i64 0,.int .u64 0,.slice none 0 0] [(0,1),(1,1),(2,1),(3,1)]:=⟨_,underlying204,zeroValue204,fun _=>by kernel_rfl⟩
instance:nQ prog 217 [.int .u64 0,.int .u64 0,.slice none 0 0] [(0,1),(1,1),(2,1)]:=⟨_,underlying217,zeroValue217,fun _=>by kernel_rfl⟩
instance:nQ prog 221 [.slice none 0 0,.slice none 0 0] [(0,1),(1,1)]:=⟨_,underlying221,zeroValue221,fun _=>by kernel_rfl⟩
instance:nQ prog 225 [.pointer none,.int .u64 0,.int .i64 0,.int .i64 0] [(0,1),(1,3)]:=⟨_,underlying225,zeroValue225,fun _=>by kernel_rfl⟩
instance:nQ prog 233 [.slice none 0 0,.int .u64 0,.map none] [(0,1),(1,1),(2,1)]:=⟨_,underlying233,zeroValue233,fun _=>by kernel_rfl⟩
instance:nQ prog 236 [.pointer none,.pointer none,.slice none 0 0,.int .u64 0,.map none,.slice none 0 0,.int .u64 0,.map none,.slice none 0 0,.int .u64 0,.map none,.slice none 0 0,.int .u64 0,.map none,.slice none 0 0,.int .u64 0,.map none,.slice none 0 0,.int .u64 0,.map none,.slice none 0 0,.int .u64 0,.map none,.slice none 0 0,.int .u64 0,.map none] [(0,1),(1,1),(2,24)]:=⟨_,underlying236,zeroValue236,fun _=>by kernel_rfl⟩
instance:nQ prog 241 [.slice none 0 0,.bool false] [(0,1),(1,1)]:=⟨_,underlying241,zeroValue241,fun _=>by kernel_rfl⟩
instance:nQ prog 250 [.int .u64 0,.int .i64 0,.int .i64 0,.int .i64 0,.slice none 0 0,.int .i64 0] [(0,1),(1,5)]:=⟨_,underlying250,zeroValue250,fun _=>by kernel_rfl⟩
instance:nQ prog 253 [.int .u64 0,.int .i64 0,.int .u64 0,.int .i64 0,.int .i64 0,.int .i64 0,.slice none 0 0,.int .u64 0,.int .u64 0,.int .i64 0,.bool false] [(0,1),(1,1),(2,1),(3,8)]:=⟨_,underlying253,zeroValue253,fun _=>by kernel_rfl⟩
instance:nQ prog 256 [.int .i64 0,.slice none 0 0] [(0,1),(1,1)]:=⟨_,underlying256,zeroValue256,fun _=>by kernel_rfl⟩
instance:nQ prog 286 [.pointer none,.pointer none,.slice none 0 0,.slice none 0 0,.slice none 0 0,.slice none 0 0,.slice none 0 0,.slice none 0 0,.slice none 0 0,.slice none 0 0,.int .u64 0,.int .u64 0,.int .u64 0,.int .u64 0,.int .u64 0,.int .u64 0,.int .u64 0,.int .u64 0,.slice none 0 0,.slice none 0 0,.slice none 0 0,.slice none 0 0,.slice none 0 0,.slice none 0 0,.slice none 0 0,.slice none 0 0] [(0,1),(1,1),(2,8),(10,8),(18,8)]:=⟨_,underlying286,zeroValue286,fun _=>by kernel_rfl⟩
instance:nQ prog 293 [.int .i64 0,.slice none 0 0,.slice none 0 0] [(0,1),(1,1),(2,1)]:=⟨_,underlying293,zeroValue293,fun _=>by kernel_rfl⟩
instance:nQ prog 305 [.int .u64 0,.int .u64 0,.int .u64 0,.int .u64 0,.int .u64 0,.int .u64 0,.int .u64 0,.int .u64 0,.int .i64 0,.int .i64 0,.int .u32 0] [(0,8),(8,1),(9,1),(10,1)]:=⟨_,underlying305,zeroValue305,fun _=>by kernel_rfl⟩
instance:nQ prog 311 [.pointer none,.int .i64 0,.int .i64 0,.int .u64 0,.int .i64 0,.int .i64 0,.int .u32 0,.slice none 0 0] [(0,1),(1,1),(2,1),(3,1),(4,1),(5,1),(6,1),(7,1)]:=⟨_,underlying311,zeroValue311,fun _=>by kernel_rfl⟩
instance:nQ prog 321 [.int .i64 0,.slice none 0 0,.slice none 0 0] [(0,1),(1,1),(2,1)]:=⟨_,underlying321,zeroValue321,fun _=>by kernel_rfl⟩
instance:nQ prog 323 [.int .u64 0,.int .u64 0,.int .u64 0,.int .u64 0,.int .u64 0,.int .u64 0,.int .u64 0,.int .u64 0,.int .i64 0,.int .i64 0,.int .u32 0] [(0,8),(8,1),(9,1),(10,1)]:=⟨_,underlying323,zeroValue323,fun _=>by kernel_rfl⟩
instance:nQ prog 341 [.int .i64 0,.int .u64 0,.int .u64 0,.int .u64 0,.int .u64 0,.int .u64 0,.int .u64 0,.slice none 0 0] [(0,1),(1,1),(2,1),(3,1),(4,1),(5,1),(6,1),(7,1)]:=⟨_,underlying341,zeroValue341,fun _=>by kernel_rfl⟩
instance:nQ prog 346 [.int .i64 0,.int .i64 0] [(0,1),(1,1)]:=⟨_,underlying346,zeroValue346,fun _=>by kernel_rfl⟩
instance:nQ prog 354 [.int .u64 0,.int .u64 0,.bool false,.bool false,.bool false,.int .u64 0,.slice none 0 0,.int .u64 0] [(0,1),(1,1),(2,1),(3,1),(4,1),(5,1),(6,1),(7,1)]:=⟨_,underlying354,zeroValue354,fun _=>by kernel_rfl⟩
instance:nQ prog 377 [.int .i64 0,.slice none 0 0] [(0,1),(1,1)]:=⟨_,underlying377,zeroValue377,fun _=>by kernel_rfl⟩
instance:nQ prog 388 [.int .i64 0,.int .u64 0,.int .u64 0,.int .i64 0,.int .i64 0,.int .i64 0,.slice none 0 0,.int .u64 0,.int .u64 0,.int .i64 0,.bool false] [(0,1),(1,1),(2,1),(3,8)]:=⟨_,underlying388,zeroValue388,fun _=>by kernel_rfl⟩
instance:nQ prog 393 [.int .i64 0,.int .u64 0] [(0,1),(1,1)]:=⟨_,underlying393,zeroValue393,fun _=>by kernel_rfl⟩
end Go.Proofs.YtcplmndikhjehaaGreat
namespace Go.Sl.dA
open Go Go.Sl
variable{bs:List UInt8}{v:Value}{vs:List Value}
structure iS where
 kept:List UInt8
 wait:List (List UInt8)
def iS.now(s:iS):List UInt8:=s.wait.getLast?.getD s.kept
structure Dk where
 n:Int
 m:List (Int×iS)
 off:Bool
 dead:Bool
 cJ:Int
 aV:List Int
 calls:Int
def je(m:List (Int×iS))(k:Int):Option iS:=(m.find? fun x=>x.1==k).map (·.2)
def kV(d:Dk)(k:Int):Option iS:=je d.m k
def Dk.ok(d:Dk):Prop:=d.n≤4096∧0≤d.calls∧(d.m.map (·.1)).Nodup∧∀x∈d.m,0≤x.1∧x.1<d.n∧(x.2.wait.length:Int)≤d.calls
def oX(m:List (Int×iS))(k:Int)(bs:List UInt8):List (Int×iS):=
 if m.any (fun x=>x.1==k) then m.map fun x=>if x.1=k then(x.1,⟨x.2.kept,x.2.wait++[bs]⟩) else x else m++[(k,⟨[],[bs]⟩)]
def oY(m:List (Int×iS)):List (Int×iS):=m.map fun x=>(x.1,⟨x.2.now,[]⟩)
def mA(aV:List Int)(i len:Nat):Nat:=match aV[i]? with|some p=>(p % ((len:Int)+1)).toNat|none=>0
def settle(s:iS)(p:Nat):iS:=⟨if p=0 then s.kept else(s.wait[p - 1]?).getD s.kept,[]⟩
def LH(m:List (Int×iS))(k:Int):Nat:=(m.filter fun x=>decide (x.1<k)&& !x.2.wait.isEmpty).length
def dY(m:List (Int×iS))(aV:List Int)(k:Int)(s:iS):iS:=settle s (if s.wait=[] then 0 else mA aV (LH m k) s.wait.length)
def oZ(m:List (Int×iS))(aV:List Int):List (Int×iS):=m.map fun x=>(x.1,dY m aV x.1 x.2)
def iu(d:Dk)(aV:List Int):Dk:=if d.off then d else{d with off:=true,cJ:=0,m:=if d.dead then d.m else oZ d.m aV}
def mB(d:Dk):Int:=if d.dead then 9 else if d.off then 8 else 0
def dP(d:Dk):Int×Dk:=if 0<d.cJ then(if d.cJ=1 then(8,iu {d with cJ:=0} d.aV) else(0,{d with cJ:=d.cJ - 1,calls:=d.calls+1})) else(0,{d with calls:=d.calls+1})
def bT(d:Dk)(k:Int)(bs:List UInt8):Int×Dk:=
 if mB d≠0 then(mB d,d) else if ¬(0≤k∧k<d.n∧bs.length≤512) then(1,d) else
 if(dP d).1≠0 then dP d else(0,{(dP d).2 with m:=oX (dP d).2.m k bs})
def ek(d:Dk):Int×Dk:=if mB d≠0 then(mB d,d) else if(dP d).1≠0 then dP d else(0,{(dP d).2 with m:=oY (dP d).2.m})
def full(bs:List UInt8):List UInt8:=bs.take 512++List.replicate (512 - bs.length) 0
def bL(d:Dk)(k:Int):List UInt8:=((kV d k).map fun s=>full s.now).getD (List.replicate 512 0)
def NS(d:Dk)(k:Int):Int:=if mB d≠0 then mB d else if 0≤k∧k<d.n then 0 else 1
structure Rw where
 k:Int
 p:Nat
 born:Nat
 s:iS
def Rw.kv(r:Rw):KV:=(r.k,r.p,r.born)
def Rw.ks(r:Rw):Int×iS:=(r.k,r.s)
abbrev aE:=List (Value×List UInt8)
def fu(aa:aE)(v:Value)(bs:List UInt8):Prop:=(v,bs)∈aa∨(v=.slice none 0 0∧bs=[])
theorem fu.mono{aa aN:aE}(h:∀p∈aa,p∈aN)(H:fu aa v bs):fu aN v bs:=H.imp (h _) id
theorem fu.eN{L:List aC}{aa:aE}(H:fu aa v bs):aB (aY aa::L) (Bytes v bs):=by
 rcases H with h|⟨rfl,rfl⟩
 · exact aB.aa h
 exact aB.rL
def o8(aa:aE)(vs:List Value)(ws:List (List UInt8)):Prop:=vs.length=ws.length∧∀(i:Nat) (v:Value) (bs:List UInt8),vs[i]? =some v→ws[i]? =some bs→fu aa v bs∧v.oneCell'=true
theorem uE{aa:aE}:o8 aa [] []:=⟨rfl,fun i v bs h=>by simp at h⟩
theorem FU{aa:aE}{ws:List (List UInt8)}(H:o8 aa vs ws)(h:fu aa v bs)(h1:v.oneCell'=true):o8 aa (vs++[v]) (ws++[bs]):=by
 refine⟨by simp[H.1],fun i u cs hu hc=> ?_⟩;rw[List.getElem?_append] at hu hc;split at hu
 · rename_i dW
   rw[if_pos (by rw[←H.1];exact dW)] at hc;exact H.2 i u cs hu hc
 rename_i B1;rw[if_neg (by rw[←H.1];exact B1)] at hc;rw[H.1] at hu;generalize i - ws.length=j at hu hc;cases j with
 |zero=>simp at hu hc;subst hu;subst hc;exact⟨h,h1⟩
 |succ j=>simp at hu
theorem o8.mono{aa aN:aE}{ws:List (List UInt8)}(h:∀p∈aa,p∈aN)(H:o8 aa vs ws):o8 aN vs ws:=⟨H.1,fun i v bs h1 h2=>⟨(H.2 i v bs h1 h2).1.mono h,(H.2 i v bs h1 h2).2⟩⟩
def kI(TS:Nat)(aa:aE)(r:Rw):aC:=Ex fun(y:Value×Option Addr×Nat×List Value)=>Pack ((fu aa y.1 r.s.kept∧y.1.oneCell'=true)∧o8 aa y.2.2.2 r.s.wait)
 [aX r.p [y.1,.slice y.2.1 r.s.wait.length y.2.2.1] TS,Own 1 (.slice y.2.1 r.s.wait.length y.2.2.1) r.s.wait.length y.2.2.2]
def fK(l:List Int):List Value:=l.map (.int .i64)
@[simp] theorem Tl(l:List Int):(fK l).length=l.length:=by simp[fK]
def pU(T TS b:Nat)(d:Dk)(pa:Option Addr)(pn pc:Nat):aC:=Ex fun(y:Nat×Nat×List Rw×aE)=>Pack (d.ok∧d.m=y.2.2.1.map Rw.ks)
 [aX b [.int .i64 d.n,.map (some y.1),.bool d.off,.bool d.dead,.int .i64 d.cJ,.slice pa pn pc,.int .i64 d.calls] T,bV y.1 .i64 (y.2.2.1.map Rw.kv) y.2.1,eE (kI TS y.2.2.2) y.2.2.1,aY y.2.2.2]
def aQ(T TS b:Nat)(d:Dk):aC:=Ex fun(y:Option Addr×Nat)=>Pack True [pU T TS b d y.1 d.aV.length y.2,Own 1 (.slice y.1 d.aV.length y.2) d.aV.length (fK d.aV)]
section
variable{W0 w:World}{L:List aC}{T TS b:Nat}{d:Dk}{aa aN:aE}{pa:Option Addr}{pn pc:Nat}
theorem si(H:On W0 (pU T TS b d pa pn pc::L) w):∃(mb ck:Nat) (rows:List Rw) (aa:aE),d.ok∧d.m=rows.map Rw.ks∧
   On W0 (aX b [.int .i64 d.n,.map (some mb),.bool d.off,.bool d.dead,.int .i64 d.cJ,.slice pa pn pc,.int .i64 d.calls] T::bV mb .i64 (rows.map Rw.kv) ck::eE (kI TS aa) rows::aY aa::L) w:=by
 obtain⟨⟨mb,ck,rows,aa⟩,H⟩:=H.ex;obtain⟨⟨h0,h1⟩,H⟩:=H.unpack;exact⟨mb,ck,rows,aa,h0,h1,H⟩
theorem gN{mb ck:Nat}{rows:List Rw}(h0:d.ok)(h1:d.m=rows.map Rw.ks)
   (H:On W0 (aX b [.int .i64 d.n,.map (some mb),.bool d.off,.bool d.dead,.int .i64 d.cJ,.slice pa pn pc,.int .i64 d.calls] T::bV mb .i64 (rows.map Rw.kv) ck::eE (kI TS aa) rows::aY aa::L) w):On W0 (pU T TS b d pa pn pc::L) w:=
 On.rT (mb,ck,rows,aa) (On.pack ⟨h0,h1⟩ H)
theorem sj(H:On W0 (aQ T TS b d::L) w):∃(pa:Option Addr) (pc:Nat),On W0 (pU T TS b d pa d.aV.length pc::Own 1 (.slice pa d.aV.length pc) d.aV.length (fK d.aV)::L) w:=by
 obtain⟨⟨pa,pc⟩,H⟩:=H.ex;obtain⟨_,H⟩:=H.unpack;exact⟨pa,pc,H⟩
theorem kW{pa:Option Addr}{pc:Nat}(H:On W0 (pU T TS b d pa d.aV.length pc::Own 1 (.slice pa d.aV.length pc) d.aV.length (fK d.aV)::L) w):On W0 (aQ T TS b d::L) w:=
 On.rT (pa,pc) (On.pack trivial H)
theorem mC{r:Rw}(H:On W0 (kI TS aa r::L) w):∃(vk:Value) (a:Option Addr) (c:Nat) (vs:List Value),fu aa vk r.s.kept∧vk.oneCell'=true∧o8 aa vs r.s.wait∧
   On W0 (aX r.p [vk,.slice a r.s.wait.length c] TS::Own 1 (.slice a r.s.wait.length c) r.s.wait.length vs::L) w:=by
 obtain⟨⟨vk,a,c,vs⟩,H⟩:=H.ex;obtain⟨⟨⟨h1,h2⟩,h3⟩,H⟩:=H.unpack;exact⟨vk,a,c,vs,h1,h2,h3,H⟩
theorem fX{r:Rw}{vk:Value}{a:Option Addr}{c:Nat}(h1:fu aa vk r.s.kept)(h2:vk.oneCell'=true)(h3:o8 aa vs r.s.wait)
   (H:On W0 (aX r.p [vk,.slice a r.s.wait.length c] TS::Own 1 (.slice a r.s.wait.length c) r.s.wait.length vs::L) w):On W0 (kI TS aa r::L) w:=
 On.rT (vk,a,c,vs) (On.pack ⟨⟨h1,h2⟩,h3⟩ H)
theorem LI{r:Rw}(h:∀p∈aa,p∈aN)(hh:Hp)(H:kI TS aa r hh):kI TS aN r hh:=by
 obtain⟨y,⟨⟨h1,h2⟩,h3⟩,s⟩:=H;exact⟨y,⟨⟨h1.mono h,h2⟩,h3.mono h⟩,s⟩
theorem FV{α:Type}{A B:α→aC}(h:∀x hh,A x hh→B x hh):∀(l:List α) (hh:Hp),eE A l hh→eE B l hh
 |[],_,_=>trivial
 | x::l,hh,H=>by
   have H':Sat (A x::l.map A) hh:=H;show Sat (B x::l.map B) hh;obtain⟨h1,h2,dd,s1,s2,a,r⟩:=H';exact⟨h1,h2,dd,s1,s2,h x _ a,FV h l h2 r⟩
theorem w6{rows:List Rw}{k:Int}:dL (rows.map Rw.kv) k=(rows.find? fun r=>r.k==k).map fun r=>r.p:=by
 unfold dL;rw[List.find?_map];have e:((fun x:KV=>x.1==k)∘Rw.kv)=fun r:Rw=>r.k==k:=rfl;rw[e];cases rows.find? fun r=>r.k==k<;>rfl
theorem Ar{d:Dk}{rows:List Rw}{k:Int}(h:d.m=rows.map Rw.ks):kV d k=(rows.find? fun r=>r.k==k).map (·.s):=by
 unfold kV je;rw[h,List.find?_map];have e:((fun x:Int×iS=>x.1==k)∘Rw.ks)=fun r:Rw=>r.k==k:=rfl;rw[e];cases rows.find? fun r=>r.k==k<;>rfl
end
end Go.Sl.dA
namespace Go.Sl.dA
open Go Go.Sl
variable{bs:List UInt8}{ck i:Nat}{k:Int}
theorem uF(rows:List Rw)(k:Int):(dL (rows.map Rw.kv) k=none∧∀r∈rows,r.k≠k)∨∃(i:Nat) (r:Rw),rows[i]? =some r∧r.k=k∧dL (rows.map Rw.kv) k=some (.pointer (some ⟨r.p,0,none⟩)):=by
 rw[w6];rcases h:rows.find? fun r=>r.k==k with _|r
 · exact .inl ⟨by rw[h];rfl,fun r hr=>by have:=List.find?_eq_none.1 h r hr;simpa using this⟩
 obtain⟨i,hi⟩:=List.getElem?_of_mem (List.mem_of_find?_eq_some h);have hk:=List.find?_some h;exact .inr ⟨i,r,hi,by simpa using hk,by rw[h];rfl⟩
theorem Ec{rows:List Rw}{p:Nat}(h:∀r∈rows,r.k≠k):iR (rows.map Rw.kv) k p ck=(rows++[(⟨k,p,ck,⟨[],[]⟩⟩:Rw)]).map Rw.kv∧fV (rows.map Rw.kv) k ck=ck+1:=by
 have ha:¬(rows.map Rw.kv).any (fun x=>x.1==k)=true:=by
   intro hh;obtain⟨x,hx,he⟩:=List.any_eq_true.1 hh;obtain⟨r,hr,rfl⟩:=List.mem_map.1 hx;exact h r hr (by simpa [Rw.kv] using he)
 unfold iR fV;rw[if_neg ha,if_neg ha];exact⟨by simp[Rw.kv],rfl⟩
theorem Ou{rows:List Rw}{p:Nat}{s:iS}(h:∀r∈rows,r.k≠k):dL ((rows++[(⟨k,p,ck,s⟩:Rw)]).map Rw.kv) k=some (.pointer (some ⟨p,0,none⟩)):=by
 rw[w6,List.find?_append,List.find?_eq_none.2 (fun r hr=>by simpa using h r hr)];simp
theorem LJ{rows:List Rw}{r:Rw}(hn:(rows.map (·.k)).Nodup)(hi:rows[i]? =some r)(hk:r.k=k):
   oX (rows.map Rw.ks) k bs=(rows.set i {r with s:=⟨r.s.kept,r.s.wait++[bs]⟩}).map Rw.ks:=by
 have dW:=(List.getElem?_eq_some_iff.1 hi).1;have yX:rows[i]=r:=(List.getElem?_eq_some_iff.1 hi).2;have ha:(rows.map Rw.ks).any (fun x=>x.1==k)=true:=List.any_eq_true.2 ⟨r.ks,List.mem_map.2 ⟨r,List.mem_of_getElem? hi,rfl⟩,by simp[Rw.ks,hk]⟩;unfold oX;rw[if_pos ha];apply List.ext_getElem
 · simp
 intro j h1 h2;simp at h1;by_cases hj:i=j
 · subst hj
   simp[yX,Rw.ks,hk]
 have l5:rows[j].k≠k:=by
   intro he;have h3:(rows.map (·.k))[i]'(by simpa using dW)=(rows.map (·.k))[j]'(by simpa using h1):=by simp[he,yX,hk]
   exact hj ((List.getElem_inj hn).1 h3)
 simp[List.getElem_set,hj,Rw.ks,l5]
theorem Ov{rows:List Rw}(h:∀r∈rows,r.k≠k):oX (rows.map Rw.ks) k bs=rows.map Rw.ks++[(k,⟨[],[bs]⟩)]:=by
 unfold oX;rw[if_neg];intro hh;obtain⟨x,hx,he⟩:=List.any_eq_true.1 hh;obtain⟨r,hr,rfl⟩:=List.mem_map.1 hx;exact h r hr (by simpa [Rw.ks] using he)
theorem WU{rows:List Rw}{r:Rw}{s:iS}(hi:rows[i]? =some r):(rows.set i {r with s:=s}).map Rw.kv=rows.map Rw.kv:=by
 have dW:=(List.getElem?_eq_some_iff.1 hi).1;have yX:rows[i]=r:=(List.getElem?_eq_some_iff.1 hi).2;apply List.ext_getElem
 · simp
 intro j h1 h2;simp at h1;by_cases hj:i=j
 · subst hj;simp[Rw.kv,yX]
 simp[List.getElem_set,hj]
theorem Ow{W0 w:World}{L:List aC}{T TS b:Nat}{d:Dk}{aa:aE}{v vk:Value}{rows:List Rw}{mb:Nat}{r:Rw}{a:Option Addr}{c:Nat}{vs:List Value}{pa:Option Addr}{pn pc:Nat}
   (cD:Dk.ok {d with m:=oX d.m k bs})
   (hi:rows[i]? =some r) (Il:oX d.m k bs=(rows.set i {r with s:=⟨r.s.kept,r.s.wait++[bs]⟩}).map Rw.ks) (LK:fu aa vk r.s.kept) (za:vk.oneCell'=true) (jE:o8 aa vs r.s.wait) (hv:v.oneCell'=true)
   (h : On W0 (aX r.p [vk, .slice a (r.s.wait.length + 1) c] TS :: Own 1 (.slice a (r.s.wait.length + 1) c) (r.s.wait.length + 1) (vs ++ [v]) :: eE (kI TS aa) (rows.eraseIdx i) ::
     aX b [.int .i64 d.n, .map (some mb), .bool d.off, .bool d.dead, .int .i64 d.cJ, .slice pa pn pc, .int .i64 d.calls] T :: bV mb .i64 (rows.map Rw.kv) ck :: aY ((v, bs) :: aa) :: L) w) :
   On W0 (pU T TS b {d with m:=oX d.m k bs} pa pn pc::L) w:=by
 have hgr:∀p∈aa,p∈((v,bs)::aa:aE):=fun p hp=>List.mem_cons_of_mem _ hp;have hb:=(h.p2).head (B:=eE (kI TS ((v,bs)::aa)) (rows.eraseIdx i)) (FV (fun x hh=>LI hgr hh) _);have h2:=hb.q2;have e:r.s.wait.length+1=(r.s.wait++[bs]).length:=by simp
 rw[e] at h2;have h3:=fX (r:={r with s:=⟨r.s.kept,r.s.wait++[bs]⟩}) (LK.mono hgr) za (FU (jE.mono hgr) (.inl (List.mem_cons_self ..)) hv) h2;have h4:=eE.close (List.getElem?_eq_some_iff.1 hi).1 h3;rw[←WU (s:=⟨r.s.kept,r.s.wait++[bs]⟩) hi] at h4;exact gN cD Il h4.q2
end Go.Sl.dA
namespace Go.Sl.dA
open Go Go.Sl
variable{bs:List UInt8}{e k:Int}
theorem WV{d:Dk}(h:mB d=e)(h0:e≠0):NS d k=e:=by unfold NS;rw[if_pos (by rw[h];exact h0),h]
theorem Tn{d:Dk}(h:mB d=0)(h0:¬(0≤k∧k<d.n)):NS d k=1:=by unfold NS;rw[if_neg (by rw[h];decide),if_neg h0]
theorem WW{d:Dk}(h:mB d=0)(h0:0≤k∧k<d.n):NS d k=0:=by unfold NS;rw[if_neg (by rw[h];decide),if_pos h0]
theorem LL{d:Dk}(h:mB d=e)(h0:e≠0):bT d k bs=(e,d):=by unfold bT;rw[if_pos (by rw[h];exact h0),h]
theorem As{d:Dk}(h:mB d=0)(h0:¬(0≤k∧k<d.n∧bs.length≤512)):bT d k bs=(1,d):=by unfold bT;rw[if_neg (by rw[h];decide),if_pos h0]
theorem FW{d:Dk}(h:mB d=0)(h0:0≤k∧k<d.n∧bs.length≤512)(hc:(dP d).1≠0):bT d k bs=dP d:=by
 unfold bT;rw[if_neg (by rw[h];decide),if_neg (fun hh=>hh h0),if_pos hc]
theorem CO{d:Dk}(h:mB d=0)(h0:0≤k∧k<d.n∧bs.length≤512)(hc:(dP d).1=0):bT d k bs=(0,{(dP d).2 with m:=oX (dP d).2.m k bs}):=by
 unfold bT;rw[if_neg (by rw[h];decide),if_neg (fun hh=>hh h0),if_neg (by rw[hc];decide)]
theorem LM{d:Dk}(h:mB d=e)(h0:e≠0):ek d=(e,d):=by unfold ek;rw[if_pos (by rw[h];exact h0),h]
theorem FX{d:Dk}(h:mB d=0)(hc:(dP d).1≠0):ek d=dP d:=by unfold ek;rw[if_neg (by rw[h];decide),if_pos hc]
theorem CQ{d:Dk}(h:mB d=0)(hc:(dP d).1=0):ek d=(0,{(dP d).2 with m:=oY (dP d).2.m}):=by unfold ek;rw[if_neg (by rw[h];decide),if_neg (by rw[hc];decide)]
def Dk.ZJ(d:Dk):Prop:=d.ok∧∀x∈d.m,(x.2.wait.length:Int)+1≤d.calls
theorem Dk.ok.Ox{d:Dk}(h:d.ok)(a:Int):Dk.ZJ {d with cJ:=a,calls:=d.calls+1}:=by
 obtain⟨h1,h2,h3,h4⟩:=h;refine⟨⟨h1,by show 0≤d.calls+1;omega,h3,fun x hx=> ?_⟩,fun x hx=> ?_⟩
 · obtain⟨a1,a2,a3⟩:=h4 x hx
   exact⟨a1,a2,by show(x.2.wait.length:Int)≤d.calls+1;omega⟩
 obtain⟨a1,a2,a3⟩:=h4 x hx;show(x.2.wait.length:Int)+1≤d.calls+1;omega
theorem Oy{f:Int→iS→iS}(m:List (Int×iS)):(m.map fun x=>(x.1,f x.1 x.2)).map (·.1)=m.map (·.1):=by rw[List.map_map];rfl
theorem Dk.ok.maps{d:Dk}(h:d.ok)(f:Int→iS→iS)(hf:∀k s,(f k s).wait.length≤s.wait.length):Dk.ok {d with m:=d.m.map fun x=>(x.1,f x.1 x.2)}:=by
 obtain⟨h1,h2,h3,h4⟩:=h;refine⟨h1,h2,(Oy d.m).symm▸h3,fun x hx=> ?_⟩;obtain⟨y,hy,rfl⟩:=List.mem_map.1 hx;obtain⟨a1,a2,a3⟩:=h4 y hy;have:=hf y.1 y.2;exact⟨a1,a2,by show((f y.1 y.2).wait.length:Int)≤d.calls;omega⟩
theorem Dk.ok.flush{d:Dk}(h:d.ok):Dk.ok {d with m:=oY d.m}:=h.maps (fun _ s=>⟨s.now,[]⟩) (fun _ _=>Nat.zero_le _)
theorem Dk.ok.oZ{d:Dk}(h:d.ok)(aV:List Int):Dk.ok {d with m:=oZ d.m aV}:=h.maps (fun k s=>dY d.m aV k s) (fun _ _=>Nat.zero_le _)
theorem Oz{m:List (Int×iS)}{x:Int×iS}(h:x∈oX m k bs):(∃y∈m,x.1=y.1∧x.2.wait.length≤y.2.wait.length+1)∨(x.1=k∧x.2.wait.length=1):=by
 unfold oX at h;split at h
 · obtain⟨y,hy,rfl⟩:=List.mem_map.1 h
   refine .inl ⟨y,hy, ?_⟩;split
   · exact⟨rfl,by simp⟩
   exact⟨rfl,by omega⟩
 rcases List.mem_append.1 h with h|h
 · exact .inl ⟨x,h,rfl,by omega⟩
 simp at h;subst h;exact .inr ⟨rfl,rfl⟩
theorem LN(m:List (Int×iS))(k:Int)(bs:List UInt8)(h:(m.map (·.1)).Nodup):((oX m k bs).map (·.1)).Nodup:=by
 unfold oX;split
 · have e:(m.map fun x=>if x.1=k then(x.1,(⟨x.2.kept,x.2.wait++[bs]⟩:iS)) else x).map (·.1)=m.map (·.1):=by
     rw[List.map_map];refine List.map_congr_left fun x _=> ?_;show(if x.1=k then(x.1,(⟨x.2.kept,x.2.wait++[bs]⟩:iS)) else x).1=x.1;split<;>rfl
   rw[e];exact h
 rename_i ha;rw[List.map_append];refine List.nodup_append.2 ⟨h,by simp, ?_⟩;intro a WS b wV;simp at wV;subst wV;rintro rfl;obtain⟨y,hy,he⟩:=List.mem_map.1 WS;exact ha (List.any_eq_true.2 ⟨y,hy,by simpa using he⟩)
theorem Dk.ZJ.add{d:Dk}(h:d.ZJ)(hk:0≤k∧k<d.n)(hc:1≤d.calls)(bs:List UInt8):Dk.ok {d with m:=oX d.m k bs}:=by
 obtain⟨⟨h1,h2,h3,h4⟩,h5⟩:=h;refine⟨h1,h2,LN _ _ _ h3,fun x hx=> ?_⟩;rcases Oz hx with⟨y,hy,e1,e2⟩|⟨e1,e2⟩
 · have a:=h4 y hy
   have b:=h5 y hy;show 0≤x.1∧x.1<d.n∧(x.2.wait.length:Int)≤d.calls;omega
 show 0≤x.1∧x.1<d.n∧(x.2.wait.length:Int)≤d.calls;omega
theorem oL{d:Dk}:((dP d).1=0∧∃a,(dP d).2={d with cJ:=a,calls:=d.calls+1}∧(0<d.cJ→d.cJ≠1∧a=d.cJ - 1)∧(¬0<d.cJ→a=d.cJ))∨(d.cJ=1∧dP d=(8,iu {d with cJ:=0} d.aV)):=by
 unfold dP;split
 · split
   · exact .inr ⟨by assumption,rfl⟩
   exact .inl ⟨rfl,_,rfl,fun _=>⟨by assumption,rfl⟩,fun h=>absurd (by assumption) h⟩
 exact .inl ⟨rfl,d.cJ,rfl,fun h=>absurd h (by assumption),fun _=>rfl⟩
theorem Dk.ok.aaN{d:Dk}(h:d.ok)(h0:(dP d).1=0):(dP d).2.ZJ∧1≤(dP d).2.calls∧(dP d).2.n=d.n:=by
 rcases oL (d:=d) with⟨_,a,e,_⟩|⟨_,e⟩
 · rw[e];exact⟨h.Ox a,by have:=h.2.1;show 1≤d.calls+1;omega,rfl⟩
 rw[e] at h0;cases h0
theorem nR:∀(n:Nat) (l:List Int),l.Nodup→(∀x∈l,0≤x∧x<(n:Int))→l.length≤n
 | 0,l,_,h=>by cases l with
   |nil=>simp
   |cons x l=>have:=h x (by simp);omega
 | n+1,l,hn,h=>by
   have hf : (l.filter (fun x => decide (x ≠ (n : Int)))).length ≤ n := nR n _ (hn.filter _) (fun x hx => by
     obtain⟨a,b⟩:=List.mem_filter.1 hx;have:=h x a;have:x≠(n:Int):=by simpa using b
     omega)
   have:l.length≤(l.filter (fun x=>decide (x≠(n:Int)))).length+1:=by
     clear hf h
     induction l with
     |nil=>simp
     | cons y l ih=>
       rw[List.nodup_cons] at hn;by_cases hy:y=(n:Int)
       · subst hy
         have e : l.filter (fun x => decide (x ≠ (n : Int))) = l := List.filter_eq_self.2 (fun x hx => by
           simp only [ne_eq, decide_eq_true_eq];rintro rfl;exact hn.1 hx)
         rw[List.filter_cons,if_neg (by simp),e];simp
       rw[List.filter_cons,if_pos (by simpa using hy)];have:=ih hn.2;simp only[List.length_cons];omega
   omega
theorem Dk.ok.size{d:Dk}(h:d.ok):d.m.length≤4096:=by
 obtain⟨h1,h2,h3,h4⟩:=h
 have := nR 4096 (d.m.map (·.1)) h3 (fun x hx => by
   obtain ⟨y, hy, rfl⟩ := List.mem_map.1 hx;have := h4 y hy;omega)
 simpa using this
theorem OA(m:List (Int×iS))(k:Int)(bs:List UInt8)(k':Int):je (oX m k bs) k'=if k'=k then some ⟨((je m k).map (·.kept)).getD [],((je m k).map (·.wait)).getD []++[bs]⟩ else je m k':=by
 unfold oX je;split
 · rename_i ha
   rw[List.find?_map]
   have e:((fun x:Int×iS=>x.1==k')∘fun x=>if x.1=k then(x.1,(⟨x.2.kept,x.2.wait++[bs]⟩:iS)) else x)=fun x=>x.1==k':=by
     funext x
     show((if x.1=k then(x.1,(⟨x.2.kept,x.2.wait++[bs]⟩:iS)) else x).1==k')=(x.1==k');split<;>rfl
   rw[e];by_cases hk:k'=k
   · subst hk
     rw[if_pos rfl];cases hf:m.find? fun x=>x.1==k' with
     | none=>
       obtain⟨x,hx,wW⟩:=List.any_eq_true.1 ha;exact absurd wW (by simpa using List.find?_eq_none.1 hf x hx)
     | some x=>
       have hx:=List.find?_some hf;have hx:x.1=k':=by simpa using hx
       simp[hx]
   rw[if_neg hk];cases hf:m.find? fun x=>x.1==k' with
   |none=>rfl
   | some x=>
     have hx:=List.find?_some hf;have hx:x.1=k':=by simpa using hx
     have:¬x.1=k:=by rw[hx];exact hk
     simp[this]
 rename_i ha
 have hn:m.find? (fun x=>x.1==k)=none:=by
   rw[List.find?_eq_none];intro x hx hh;exact ha (List.any_eq_true.2 ⟨x,hx,hh⟩)
 rw[List.find?_append];by_cases hk:k'=k
 · subst hk
   rw[if_pos rfl,hn];simp
 rw[if_neg hk];have:(k==k')=false:=by simpa using fun e=>hk e.symm
 simp[List.find?_cons,this]
theorem LO(m:List (Int×iS))(f:Int→iS→iS)(k:Int):je (m.map fun x=>(x.1,f x.1 x.2)) k=(je m k).map (f k):=by
 unfold je;rw[List.find?_map];have e:((fun x:Int×iS=>x.1==k)∘fun x:Int×iS=>(x.1,f x.1 x.2))=fun x=>x.1==k:=rfl;rw[e];cases hf:m.find? fun x=>x.1==k with
 |none=>rfl
 | some x=>
   have hx:=List.find?_some hf;have hx:x.1=k:=by simpa using hx
   simp[hx]
theorem IC(m:List (Int×iS))(k:Int):je (oY m) k=(je m k).map fun s=>⟨s.now,[]⟩:=LO m (fun _ s=>⟨s.now,[]⟩) k
def pV(m:List (Int×iS))(k:Int):Bool:=((je m k).map fun s=> !s.wait.isEmpty).getD false
theorem FY{m:List (Int×iS)}(hn:(m.map (·.1)).Nodup){x:Int×iS}(hx:x∈m):je m x.1=some x.2:=by
 unfold je
 induction m with
 |nil=>cases hx
 | cons y m ih=>
   rw[List.map_cons,List.nodup_cons] at hn;rw[List.find?_cons];rcases List.mem_cons.1 hx with rfl|hx
   · simp
   have:(y.1==x.1)=false:=by
     simp only[beq_eq_false_iff_ne,ne_eq];intro e;exact hn.1 (e▸List.mem_map.2 ⟨x,hx,rfl⟩)
   rw[this];exact ih hn.2 hx
theorem LP{m:List (Int×iS)}(hn:(m.map (·.1)).Nodup)(k:Int):LH m k=((m.map (·.1)).filter fun k'=>decide (k'<k)&&pV m k').length:=by
 unfold LH;rw[List.filter_map,List.length_map]
 congr 1
 refine List.filter_congr fun x hx=> ?_;show _=(decide (x.1<k)&&pV m x.1);unfold pV;rw[FY hn hx];rfl
theorem FZ{ks:List Int}(hs:ks.Pairwise (· ≤ ·))(hn:ks.Nodup):ks.Pairwise (· < ·):=by
 refine(List.Pairwise.and hs hn).imp fun{a b} h=> ?_;have:=h.1;have:=h.2;omega
theorem LQ{m:List (Int×iS)}{ks:List Int}(hn:(m.map (·.1)).Nodup)(hp:ks.Perm (m.map (·.1)))(hs:ks.Pairwise (· ≤ ·)){j:Nat}(hj:ks[j]? =some k):
   ((ks.take j).filter (pV m)).length=LH m k:=by
 have dW:=FZ hs (hp.nodup_iff.2 hn);rw[LP hn,←(hp.filter _).length_eq];have hjl:=(List.getElem?_eq_some_iff.1 hj).1
 have e:ks=ks.take j++k::ks.drop (j+1):=by
   have h1:ks.drop j=k::ks.drop (j+1):=by
     rw[List.drop_eq_getElem_cons hjl,(List.getElem?_eq_some_iff.1 hj).2]
   rw[←h1,List.take_append_drop]
 rw[e] at dW;rw[List.pairwise_append] at dW;obtain⟨h1,h2,h3⟩:=dW;rw[List.pairwise_cons] at h2
 conv=>rhs;rw[e]
 rw[List.filter_append,List.filter_cons]
 have e1:(ks.take j).filter (fun k'=>decide (k'<k)&&pV m k')=(ks.take j).filter (pV m):=List.filter_congr fun x hx=>by
   have:=h3 x hx k (by simp);simp[this]
 have e2:(ks.drop (j+1)).filter (fun k'=>decide (k'<k)&&pV m k')=[]:=List.filter_eq_nil_iff.2 fun x hx=>by
   have:=h2.1 x hx;have:¬x<k:=by omega
   simp[this]
 rw[e1,e2];simp
theorem ye(bs:List UInt8):(full bs).length=512:=by
 unfold full;rw[List.length_append,List.length_take,List.length_replicate];omega
theorem vE(d:Dk)(k:Int):(bL d k).length=512:=by
 unfold bL;cases kV d k with
 |none=>exact List.length_replicate
 |some s=>exact ye _
def uG(f:iS→iS)(seen:Array Nat)(rows:List Rw):List Rw:=rows.map fun r=>if seen.contains r.born then{r with s:=f r.s} else r
section
variable{f:iS→iS}{seen:Array Nat}{rows:List Rw}{kvs:List KV}{i:Nat}{r:Rw}
theorem ID{d:Dk}{rows:List Rw}(h:d.m=rows.map Rw.ks)(hl:dL (rows.map Rw.kv) k=none):bL d k=List.replicate 512 0:=by
 rw[w6] at hl;unfold bL;rw[Ar h];cases hf:rows.find? fun r=>r.k==k with
 |none=>rfl
 |some r=>rw[hf] at hl;cases hl
theorem IE{d:Dk}{rows:List Rw}{r:Rw}(h:d.m=rows.map Rw.ks)(hn:(rows.map (·.k)).Nodup)(hr:r∈rows)(hk:r.k=k):bL d k=full r.s.now:=by
 unfold bL;rw[Ar h];cases hf:rows.find? fun r=>r.k==k with
 |none=>exact absurd (List.find?_eq_none.1 hf r hr) (by simp[hk])
 | some q=>
   have hq:=List.mem_of_find?_eq_some hf;have hqk:q.k=k:=by have:=List.find?_some hf;simpa using this
   have:q=r:=by
     obtain⟨i,hi⟩:=List.getElem?_of_mem hq;obtain⟨j,hj⟩:=List.getElem?_of_mem hr;have h1:(rows.map (·.k))[i]? =some k:=by rw[List.getElem?_map,hi];simp[hqk]
     have h2:(rows.map (·.k))[j]? =some k:=by rw[List.getElem?_map,hj];simp[hk]
     have Te:i=j:=(List.getElem?_inj (List.getElem?_eq_some_iff.1 h1).1 hn).1 (h1.trans h2.symm);subst Te;exact Option.some.inj (hi.symm.trans hj)
   rw[this];rfl
theorem LR:uG f #[] rows=rows:=by
 unfold uG;simp
theorem OB(h:iX (rows.map Rw.kv) seen=[]):uG f seen rows=rows.map fun r=>{r with s:=f r.s}:=by
 unfold uG;refine List.map_congr_left fun r hr=> ?_;rw[if_pos];have:=List.filter_eq_nil_iff.1 h r.kv (List.mem_map.2 ⟨r,hr,rfl⟩);simpa [Rw.kv] using this
theorem Tp{e:KV}(h:e∈iX (rows.map Rw.kv) seen):∃(i:Nat) (r:Rw),rows[i]? =some r∧e=r.kv∧seen.contains r.born=false:=by
 obtain⟨h1,h2⟩:=List.mem_filter.1 h;obtain⟨r,hr,rfl⟩:=List.mem_map.1 h1;obtain⟨i,hi⟩:=List.getElem?_of_mem hr;exact⟨i,r,hi,rfl,by simpa [Rw.kv] using h2⟩
theorem Tq{e:KV}(h:e∈iX kvs seen):e∈kvs:=(List.mem_filter.1 h).1
theorem OC(hi:rows[i]? =some r)(hs:seen.contains r.born=false):(uG f seen rows)[i]? =some r:=by
 unfold uG;rw[List.getElem?_map,hi];simp only[Option.map_some,hs];rfl
theorem contains_push(a b:Nat):(seen.push a).contains b=(seen.contains b||(b==a)):=by
 rw[Bool.eq_iff_iff];simp[Array.contains_iff_mem,Array.mem_push]
theorem OD(hn:(rows.map (·.born)).Nodup)(hi:rows[i]? =some r)(hs:seen.contains r.born=false):(uG f seen rows).set i {r with s:=f r.s}=uG f (seen.push r.born) rows:=by
 have dW:=(List.getElem?_eq_some_iff.1 hi).1;have yX:rows[i]=r:=(List.getElem?_eq_some_iff.1 hi).2;unfold uG;apply List.ext_getElem
 · simp
 intro j h1 h2;simp at h1;have Su:j<rows.length:=by simpa using h1
 by_cases hj:i=j
 · subst hj
   simp only[List.getElem_set_self,List.getElem_map,yX,contains_push,hs,beq_self_eq_true];rfl
 have l5:¬rows[j].born=r.born:=by
   intro he;have h3:(rows.map (·.born))[i]'(by simpa using dW)=(rows.map (·.born))[j]'(by simpa using Su):=by simp[he,yX]
   exact hj ((List.getElem_inj hn).1 h3)
 have hb:(rows[j].born==r.born)=false:=by simpa using l5
 simp only[List.getElem_set,hj,List.getElem_map,contains_push,hb,Bool.or_false,if_false]
theorem OE:(uG f seen rows).length=rows.length:=by unfold uG;simp
theorem LS{e:KV}(h:e∈iX kvs seen):(iX kvs (seen.push e.2.2)).length<(iX kvs seen).length:=by
 have e1:iX kvs (seen.push e.2.2)=(iX kvs seen).filter fun x=> !(x.2.2==e.2.2):=by
   unfold iX;rw[List.filter_filter];refine List.filter_congr fun x _=> ?_;rw[contains_push,Bool.not_or,Bool.and_comm]
 rw[e1];exact List.length_filter_lt_length_iff_exists.2 ⟨e,h,by simp⟩
end
theorem LU(bs:List UInt8):cE (List.replicate 512 (.int .u8 0)) 0 ((aL bs).take (min bs.length 512))=aL (full bs):=by
 unfold cE full
 have e:(aL bs).take (min bs.length 512)=aL (bs.take 512):=by
   unfold aL;rw[←List.map_take]
   congr 1
   rcases Nat.le_total bs.length 512 with h|h
   · rw[Nat.min_eq_left h,List.take_of_length_le (Nat.le_refl _),List.take_of_length_le h]
   rw[Nat.min_eq_right h]
 rw[e,List.take_zero,List.nil_append,Nat.zero_add,List.drop_replicate];unfold aL;rw[List.map_append,List.map_replicate,List.length_map,List.length_take]
 congr 2
 omega
theorem fu.form{W0 w:World}{L:List aC}{aa:aE}{v:Value}(H:fu aa v bs)(h:On W0 (aY aa::L) w):∃a c,v=.slice a bs.length c∧bs.length≤c∧c≤maxLen:=by
 obtain⟨a,c,h1,h2,h3,_⟩:=(h.reads (H.eN)).form;exact⟨a,c,h1,h2,h3⟩
theorem iH{α:Type}{l:List α}{i:Nat}{x:α}(h:l[i]? =some x):l.set i x=l:=by
 have dW:=(List.getElem?_eq_some_iff.1 h).1;have hx:l[i]=x:=(List.getElem?_eq_some_iff.1 h).2;rw[←hx];exact List.set_getElem_self dW
theorem LV{rows:List Rw}{ck:Nat}(h:B5 (rows.map Rw.kv) ck):(rows.map (·.born)).Nodup:=by
 have:=h.2.1;rw[List.map_map] at this;exact this
theorem F0{rows:List Rw}{ck:Nat}(h:B5 (rows.map Rw.kv) ck):(rows.map (·.k)).Nodup:=by
 have:=h.1;rw[List.map_map] at this;exact this
end Go.Sl.dA
namespace Go.Sl.dA
open Go Go.Sl
variable{len:Nat}{aV:List Int}
def fD(f:Int→iS→iS)(ks:List Int)(rows:List Rw):List Rw:=rows.map fun r=>if ks.contains r.k then{r with s:=f r.k r.s} else r
section
variable{f:Int→iS→iS}{ks:List Int}{rows:List Rw}{i j:Nat}{r:Rw}{k:Int}
theorem IF:fD f [] rows=rows:=by unfold fD;simp
theorem IG(hi:rows[i]? =some r)(hs:ks.contains r.k=false):(fD f ks rows)[i]? =some r:=by
 unfold fD;rw[List.getElem?_map,hi];simp only[Option.map_some,hs];rfl
theorem II:(fD f ks rows).length=rows.length:=by unfold fD;simp
theorem IJ(hn:(rows.map (·.k)).Nodup)(hi:rows[i]? =some r)(hs:ks.contains r.k=false):(fD f ks rows).set i {r with s:=f r.k r.s}=fD f (ks++[r.k]) rows:=by
 have dW:=(List.getElem?_eq_some_iff.1 hi).1;have yX:rows[i]=r:=(List.getElem?_eq_some_iff.1 hi).2;unfold fD;apply List.ext_getElem
 · simp
 intro j h1 h2;simp at h1;have Su:j<rows.length:=by simpa using h1
 by_cases hj:i=j
 · subst hj
   simp[yX]
 have l5:¬rows[j].k=r.k:=by
   intro he;have h3:(rows.map (·.k))[i]'(by simpa using dW)=(rows.map (·.k))[j]'(by simpa using Su):=by simp[he,yX]
   exact hj ((List.getElem_inj hn).1 h3)
 simp[List.getElem_set,hj,l5]
theorem IK(h:∀r∈rows,r.k∈ks):fD f ks rows=rows.map fun r=>{r with s:=f r.k r.s}:=by
 unfold fD;refine List.map_congr_left fun r hr=> ?_;rw[if_pos (by simpa using h r hr)]
theorem take_one(hj:ks[j]? =some k):ks.take (j+1)=ks.take j++[k]:=by
 rw[List.take_add_one,hj];rfl
theorem OF(hn:ks.Nodup)(hj:ks[j]? =some k):(ks.take j).contains k=false:=by
 have dW:=(List.getElem?_eq_some_iff.1 hj).1;rw[←Bool.not_eq_true,List.contains_iff_mem];intro hm;obtain⟨q,hq⟩:=List.getElem?_of_mem hm;rw[List.getElem?_take] at hq;split at hq
 · have:=(List.getElem?_inj (List.getElem?_eq_some_iff.1 hq).1 hn).1 (hq.trans hj.symm)
   omega
 cases hq
theorem F2(hm:rows.map Rw.ks=(rows.map Rw.ks)):(rows.map Rw.ks).map (·.1)=rows.map (·.k):=by rw[List.map_map];rfl
theorem LW{m:List (Int×iS)}(hm:m=rows.map Rw.ks)(hn:(rows.map (·.k)).Nodup)(hr:r∈rows):pV m r.k= !r.s.wait.isEmpty:=by
 subst hm;unfold pV;have:=FY (by rw[F2 rfl];exact hn) (List.mem_map.2 ⟨r,hr,rfl⟩);have e:r.ks.1=r.k:=rfl;rw[e] at this;rw[this];rfl
def lC(m:List (Int×iS))(ks:List Int)(j:Nat):Nat:=((ks.take j).filter (pV m)).length
theorem LX{m:List (Int×iS)}(hj:ks[j]? =some k)(h:pV m k=false):lC m ks (j+1)=lC m ks j:=by
 unfold lC;rw[take_one hj,List.filter_append];simp[h]
theorem LY{m:List (Int×iS)}(hj:ks[j]? =some k)(h:pV m k=true):lC m ks (j+1)=lC m ks j+1:=by
 unfold lC;rw[take_one hj,List.filter_append];simp[h]
theorem Tr(m:List (Int×iS))(ks:List Int)(j:Nat):lC m ks j≤ks.length:=by
 unfold lC;have h1:=List.length_filter_le (pV m) (ks.take j);have h2:=List.length_take_le j ks;simp at h1 h2;omega
end
theorem vF(q:Int)(n:Nat):q % ((n:Int)+1)=if q.tmod ((n:Int)+1)<0 then q.tmod ((n:Int)+1)+((n:Int)+1) else q.tmod ((n:Int)+1):=by
 have hp:(0:Int)<(n:Int)+1:=by omega
 have h1:=Int.tmod_lt_of_pos q hp
 have h0: -((n:Int)+1)<q.tmod ((n:Int)+1):=by
   have:=Int.lt_tmod_of_pos q hp;exact this
 have h2:=Int.tmod_add_mul_tdiv q ((n:Int)+1)
 have key:∀r z:Int,r+((n:Int)+1)*z=q→0≤r→r<(n:Int)+1→q % ((n:Int)+1)=r:=by
   intro r z e a b;rw[←e,Int.add_mul_emod_self_left,Int.emod_eq_of_lt a b]
 split
 · exact key _ (q.tdiv ((n:Int)+1) - 1) (by rw[Int.mul_sub];omega) (by omega) (by omega)
 exact key _ _ h2 (by omega) h1
theorem OG(aV:List Int)(i len:Nat):mA aV i len≤len:=by
 unfold mA;split
 · rename_i q _
   have h1:=Int.emod_nonneg q (b:=(len:Int)+1) (by omega);have h2:=Int.emod_lt_of_pos q (b:=(len:Int)+1) (by omega);omega
 omega
theorem IL{i:Nat}(h:aV.length≤i):(mA aV i len:Int)=0:=by unfold mA;rw[List.getElem?_eq_none h];rfl
theorem LZ{i:Nat}{q:Int}(h:aV[i]? =some q)(hq:q.tmod ((len:Int)+1)<0):(mA aV i len:Int)=q.tmod ((len:Int)+1)+((len:Int)+1):=by
 unfold mA;rw[h];show((q % ((len:Int)+1)).toNat:Int)=_;rw[Int.toNat_of_nonneg (Int.emod_nonneg q (by omega)),vF,if_pos hq]
theorem Ma{i:Nat}{q:Int}(h:aV[i]? =some q)(hq:¬q.tmod ((len:Int)+1)<0):(mA aV i len:Int)=q.tmod ((len:Int)+1):=by
 unfold mA;rw[h];show((q % ((len:Int)+1)).toNat:Int)=_;rw[Int.toNat_of_nonneg (Int.emod_nonneg q (by omega)),vF,if_neg hq]
theorem F3(s:iS)(h:s.wait=[])(p:Nat)(hp:p=0):settle s p=s:=by
 unfold settle;subst hp;cases s;simp at h⊢;exact h
theorem yf{m:List (Int×iS)}{k:Int}{s:iS}(h:s.wait=[]):dY m aV k s=s:=by
 unfold dY;rw[if_pos h];exact F3 s h 0 rfl
theorem F4{m:List (Int×iS)}{k:Int}{s:iS}(h:¬s.wait=[]):dY m aV k s=settle s (mA aV (LH m k) s.wait.length):=by
 unfold dY;rw[if_neg h]
theorem IM{d:Dk}(h:d.off=true):iu d aV=d:=by unfold iu;rw[if_pos h]
theorem F5{d:Dk}(h:d.off=false)(h2:d.dead=true):iu d aV={d with off:=true,cJ:=0}:=by
 unfold iu;rw[if_neg (by rw[h];decide)];simp[h2]
theorem CR{d:Dk}(h:d.off=false)(h2:d.dead=false):iu d aV={d with off:=true,cJ:=0,m:=oZ d.m aV}:=by
 unfold iu;rw[if_neg (by rw[h];decide)];simp[h2]
theorem IN{m:List (Int×iS)}{rows:List Rw}(hm:m=rows.map Rw.ks):oZ m aV=(rows.map fun r=>{r with s:=dY m aV r.k r.s}).map Rw.ks:=by
 unfold oZ;rw[List.map_map]
 conv=>lhs;rw[hm]
 rw[List.map_map];refine List.map_congr_left fun r _=> ?_;show(r.ks.1,dY (rows.map Rw.ks) aV r.ks.1 r.ks.2)=_;rw[←hm];rfl
end Go.Sl.dA
namespace Go.Sl.dA
open Go Go.Sl
def Dk.low(d:Dk):Prop:=d.calls≤1000000000000∧d.cJ≤1000000000000000000
theorem Au{d:Dk}(h:¬0<d.cJ):dP d=(0,{d with calls:=d.calls+1}):=by unfold dP;rw[if_neg h]
theorem IP{d:Dk}(h:0<d.cJ)(h2:d.cJ≠1):dP d=(0,{d with cJ:=d.cJ - 1,calls:=d.calls+1}):=by unfold dP;rw[if_pos h,if_neg h2]
theorem IQ{d:Dk}(h:d.cJ=1):dP d=(8,iu {d with cJ:=0} d.aV):=by unfold dP;rw[if_pos (by omega),if_pos h]
theorem vG(d:Dk)(p:List Int):(iu d p).aV=d.aV:=by unfold iu;split<;>rfl
theorem Ed(d:Dk)(p:List Int):(iu d p).calls=d.calls:=by unfold iu;split<;>rfl
theorem OH(d:Dk)(p:List Int):(iu d p).n=d.n:=by unfold iu;split<;>rfl
section
variable{W0 w:World}{L:List aC}{T TS b:Nat}{d:Dk}
theorem Kq{p:List Int}{pa:Option Addr}{pc:Nat}(e:d.aV=p)(H:On W0 (pU T TS b d pa p.length pc::Own 1 (.slice pa p.length pc) p.length (fK p)::L) w):On W0 (aQ T TS b d::L) w:=by
 subst e;exact kW H
theorem w8(H:On W0 (aQ T TS b d::L) w):d.ok:=by
 obtain⟨pa,pc,H⟩:=sj H;obtain⟨_,_,_,_,h,_⟩:=si H;exact h
end
end Go.Sl.dA
namespace Go.Sl.dA
open Go Go.Sl
def Mb(n:Int):Dk:=⟨n,[],false,false,0,[],0⟩
end Go.Sl.dA
namespace Go.Proofs.YtcplmndikhjehaaGreat
open Go.Proofs.Tryz
open Go Go.Sl Go.Sl.dA
set_option maxHeartbeats 0
set_option maxRecDepth 8000
variable{b:Nat}
variable{W0 w:World}{L F:List aC}
theorem row_one{l:List Value}{i:Nat}{u:Value}(h:l[i]? =some u):(l.drop i).take 1=[u]:=by
 have dW:=(List.getElem?_eq_some_iff.1 h).1;rw[List.drop_eq_getElem_cons dW,List.take_succ_cons,List.take_zero,(List.getElem?_eq_some_iff.1 h).2]
theorem OI{d:Dk}{pa:Option Addr}{pn pc:Nat}(h:On W0 (pU 109 221 b d pa pn pc::L) w):Cs 115 [b] w fun v w'=>v=.int .i64 (mB d)∧On W0 (pU 109 221 b d pa pn pc::L) w':=by
 refine qO ?_;have aA:=si h;obtain⟨mb,ck,rows,aa,cD,hm,h⟩:=aA;refine qI (fun c3=> ?_) (fun c3=> ?_)
 · refine qR ?_;exact⟨by unfold mB;rw[if_pos c3],gN cD hm h⟩
 refine qI (fun c7=> ?_) (fun c7=> ?_)
 · refine qR ?_;exact⟨by unfold mB;rw[if_neg (by rw[c3];decide),if_pos c7],gN cD hm h⟩
 refine qR ?_;exact⟨by unfold mB;rw[if_neg (by rw[c3];decide),if_neg (by rw[c7];decide)],gN cD hm h⟩
theorem IS{d:Dk}(h:On W0 (aQ 109 221 b d::L) w):Cs 115 [b] w fun v w'=>v=.int .i64 (mB d)∧On W0 (aQ 109 221 b d::L) w':=by
 obtain⟨pa,pc,h⟩:=sj h;refine(OI h).mono fun e w' he=> ?_;obtain⟨v,he,hv,h⟩:=he;exact⟨v,he,hv,kW h⟩
theorem WX{d:Dk}{pa:Option Addr}{pn pc:Nat}{k:Int}(h:On W0 (pU 109 221 b d pa pn pc::L) w):Cs 116 [b,.int .i64 k] w fun v w'=>v=.bool (decide (0≤k∧k<d.n))∧On W0 (pU 109 221 b d pa pn pc::L) w':=by
 refine qO ?_;have aA:=si h;obtain⟨mb,ck,rows,aa,cD,hm,h⟩:=aA;refine go ?_;refine WL.q (eA rfl rfl) (fun c6=> ?_) (fun c6=> ?_)
 ·
  refine go ?_;refine WL.q (cH rfl rfl) (fun CS=> ?_) (fun CS=> ?_)
  · refine qR ?_;exact⟨by rw[decide_eq_true (by omega)],gN cD hm h⟩
  refine qR ?_;exact⟨by rw[decide_eq_false (by omega)],gN cD hm h⟩
 refine qR ?_;exact⟨by rw[decide_eq_false (by omega)],gN cD hm h⟩
theorem aaO{d:Dk}{k:Int}(h:On W0 (aQ 109 221 b d::L) w):Cs 116 [b,.int .i64 k] w fun v w'=>v=.bool (decide (0≤k∧k<d.n))∧On W0 (aQ 109 221 b d::L) w':=by
 obtain⟨pa,pc,h⟩:=sj h;refine(WX h).mono fun e w' he=> ?_;obtain⟨v,he,hv,h⟩:=he;exact⟨v,he,hv,kW h⟩
theorem WY{d:Dk}(h:On W0 (aQ 109 221 b d::L) w):Cs 95 [b] w fun v w'=>On W0 (aQ 109 221 b {d with off:=false,cJ:=0}::L) w':=by
 refine qO ?_;have aA:=sj h;obtain⟨pa,pc,h⟩:=aA;have aA:=si h;obtain⟨mb,ck,rows,aa,cD,hm,h⟩:=aA;refine gs fun w h _=> ?_;refine gs fun w h _=> ?_;refine qR ?_;have h:=gN (d:={d with off:=false,cJ:=0}) cD hm h;exact kW h
theorem nS{d:Dk}(h:On W0 (aQ 109 221 b d::L) w):Cs 63 [b] w fun v w'=>v=.int .i64 d.n∧On W0 (aQ 109 221 b d::L) w':=by
 refine qO ?_;have aA:=sj h;obtain⟨pa,pc,h⟩:=aA;have aA:=si h;obtain⟨mb,ck,rows,aa,cD,hm,h⟩:=aA;refine qR ?_;have h:=gN cD hm h;exact⟨rfl,kW h⟩
theorem OJ{r:Rw}{aa:aE}(h:On W0 (kI 221 aa r::L) w):Cs 118 [r.p] w fun v w'=>fu aa v r.s.now∧v.oneCell'=true∧On W0 (kI 221 aa r::L) w':=by
 refine qO ?_;have aA:=mC h;obtain⟨vk,a,c,vs,LK,za,jE,h⟩:=aA;have aA:=Own.bounds h.p1;obtain⟨yg,IT⟩:=aA;have fH:=aG;refine qI (fun c3=> ?_) (fun c3=> ?_)
 ·
  refine W.seq ?_;have aA:∃x,r.s.wait[r.s.wait.length - 1]? =some x:=⟨r.s.wait[r.s.wait.length - 1]'(by omega),by simp⟩;obtain⟨x,hx⟩:=aA;have hvl:=jE.1;have aA:∃u,vs[r.s.wait.length - 1]? =some u:=⟨vs[r.s.wait.length - 1]'(by omega),by simp⟩;obtain⟨u,hu⟩:=aA;have aA:=Own.addr h.p1 (by omega);obtain⟨ba,oa,rfl⟩:=aA;have aA:=jE.2 _ u x hu hx;obtain⟨Sw,hu1⟩:=aA;have WZ:r.s.now=x:=by unfold iS.now;rw[List.getLast?_eq_getElem?,hx];rfl
  refine go ?_;refine WL.v (iD (m:=r.s.wait.length) (n:=1) rfl rfl (by omega) (by omega)) ?_;refine qD ?_;refine WL.l isAgg28 rfl ((h.aR (v:=.slice (some ⟨ba,oa,none⟩) r.s.wait.length c)).elem (i:=r.s.wait.length - 1) (vs:=[u]) (by omega) (by rw[Nat.mul_one];exact row_one hu) 0 _ rfl) ?_;refine go ?_;refine W.ret (bf.r1 (v:=u) results118 rfl ?_);exact⟨by rw[WZ];exact Sw,hu1,fX LK za jE h⟩
 refine go ?_;refine W.ret (bf.r1 (v:=vk) results118 rfl ?_);have W3:r.s.wait=[]:=List.eq_nil_of_length_eq_zero (by omega);have WZ:r.s.now=r.s.kept:=by unfold iS.now;rw[W3];rfl
 exact⟨by rw[WZ];exact LK,za,fX LK za jE h⟩
end Go.Proofs.YtcplmndikhjehaaGreat
namespace Go.Sl
open Go Go.MapKept Go.Maps
open Go.WideElems (Fit rd rg pl rd_val elemAt)
def CT{H:Type}(v:Value):Option (DataW H×List MemPlace):=some (.nil,[])
theorem yh{H:Type}(x:Lit×DataW H):∀l:List (Lit×DataW H),(DataW.insert x l).Perm (x::l)
 |[]=>List.Perm.refl _
 | y::l=>by
   unfold DataW.insert;split
   · exact List.Perm.refl _
   exact((yh x l).cons y).trans (List.Perm.swap ..)
theorem uH{H:Type}:∀l:List (Lit×DataW H),(l.foldr DataW.insert []).Perm l
 |[]=>List.Perm.refl _
 | x::l=>by
   rw[List.foldr_cons];exact(yh x _).trans ((uH l).cons x)
section
variable{P:Program}{w w' W0:World}{L:List aC}
theorem Ee{kT b:Nat}{kvs:List KV}{ck:Nat}(hk:P.underlying kT=some (.int .i64))(hf:B5 kvs ck)(hr:∀x∈kvs,(Lit.int .i64 x.1).wf=true)(hl:kvs.length≤maxLen)(hb:w.heap[b]? =some (jy .i64 kvs ck)):
   ∃D0:DataW Unit,w.ownsMap P kT CT b kvs.length D0∧(intKeys D0).Perm (kvs.map (·.1))∧Maps.size D0=kvs.length:=by
 have key:∀x∈kvs,keyOf P kT (.int .i64 x.1)=some (.int .i64 x.1):=fun x hx=>by
   unfold keyOf;rw[hk];simp only[mapKey,hk];simp[hr x hx]
 have hrd:∀x∈kvs,rd P kT (CT (H:=Unit)) (qV .i64 x)=some (.int .i64 x.1,.nil):=fun x hx=>by
   unfold rd;show(keyOf P kT (.int .i64 x.1)).bind _=_;rw[key x hx];rfl
 have hrg:((kvs.map (qV .i64)).map (rg P kT (CT)))=kvs.map fun x=>(Lit.int .i64 x.1,(DataW.nil:DataW Unit)):=by
   rw[List.map_map];refine List.map_congr_left fun x hx=> ?_;show rg P kT CT (qV .i64 x)=_;unfold rg;rw[hrd x hx];rfl
 refine⟨_,⟨(kvs.map (qV .i64)).toArray,ck,hb,⟨by simpa using hl,⟨?_, ?_, ?_⟩, ?_⟩,by simp,rfl⟩, ?_, ?_⟩
 · intro x hx
   simp at hx;obtain⟨a,b,c,hx,rfl⟩:=hx;exact hf.2.2 _ hx
 · have:((kvs.map (qV .i64)).toArray.toList.map (·.born))=kvs.map (·.2.2):=by simp[Function.comp_def,qV]
   rw[this];exact hf.2.1
 · have e:((kvs.map (qV .i64)).toArray.toList.map (·.key))=(kvs.map (·.1)).map (Value.int .i64):=by simp[Function.comp_def,qV]
   rw[e];exact List.Pairwise.map _ (fun a b h=>by simpa using h) hf.1
 · intro x hx
   simp at hx;obtain⟨a,b,c,hx,rfl⟩:=hx;exact⟨_,hrd _ hx⟩
 · show((((kvs.map (qV .i64)).toArray.toList.map (rg P kT CT)).foldr DataW.insert []).map fun p=>intOf p.1).Perm _
   refine((uH _).map _).trans ?_;rw[hrg,List.map_map];exact List.Perm.refl _
 show(((kvs.map (qV .i64)).toArray.toList.map (rg P kT CT)).foldr DataW.insert []).length=_;rw[(uH _).length_eq];simp
theorem On.stays(H:On W0 L w)(hb:RowKit.Below w.heap.size w w'):On W0 L w':=by
 refine⟨hb.os.trans H.os,hb.output.trans H.output,hb.tape.trans H.tape,Nat.le_trans H.size hb.size,H.sat.mono fun b o e=> ?_⟩;have dW:b<w.heap.size:=(Array.getElem?_eq_some_iff.1 e).1;show w'.heap[b]? =some o;rw[hb.block b dW];exact e
theorem On.newRow(H:On W0 L w)(hb:RowKit.Below w.heap.size w w'){e size n:Nat}{v:Value}{xs:List Value}(ho:w'.ownsRow w.heap.size e size v n xs):On W0 (Own size v n xs::L) w':=by
 obtain⟨hl,ho⟩:=ho;have H':=H.stays hb;rcases ho with⟨rfl,rfl⟩|⟨g,cap,cur,rfl,hg,hgb,h1,h2,h3,h4⟩
 · exact⟨H'.os,H'.output,H'.tape,H'.size,⟨fun _=>none,hp w',(fun _ _ _ e _=>by cases e),(fun _ _ e=>by cases e),Sub.refl _,⟨hl,.inl ⟨rfl,none,rfl⟩⟩,H'.sat⟩⟩
 have hk:On W0 (aX g cur.toList e (0,0)::L) w':=by
   refine⟨H'.os,H'.output,H'.tape,H'.size,⟨fun x=>if x=g then some (obj cur.toList e (0,0)) else none,hp w, ?_, ?_, ?_,by simp[vf],H.sat⟩⟩
   · intro x u u' e1 e2
     have hx:x=g:=by by_cases hx:x=g;exact hx;simp[hx] at e1
     subst hx;have:x<w.heap.size:=(Array.getElem?_eq_some_iff.1 e2).1;omega
   · intro x u e1
     have hx:x=g:=by by_cases hx:x=g;exact hx;simp[hx] at e1
     subst hx;simp at e1;show w'.heap[x]? =some u;rw[hgb,←e1]
   intro x u e1;have dW:x<w.heap.size:=(Array.getElem?_eq_some_iff.1 e1).1;show w'.heap[x]? =some u;rw[hb.block x dW];exact e1
 exact Own.nA hk hl h1 h2 (by simp;omega) (by simpa using h4) (.inl rfl)
end
end Go.Sl
namespace Go.Proofs.YtcplmndikhjehaaGreat
open Go.Proofs.Tryz
open Go Go.Shelf
def Tryz.Md:Go.Shelf.Ren:=⟨fun|7=>148|10=>227|n=>n,fun|23=>107|26=>3|3=>219|28=>262|0=>0|27=>261|33=>73|4=>4|n=>n,fun|n=>n⟩
theorem Tryz.aaQ : Go.Proofs.SlLaysZI.n7 Tryz.prog Tryz.Md := {
 mixed:=by kernel_rfl,
 f7:=⟨Tryz.f148.name,by decide,func148.trans (congrArg some (by kernel_rfl))⟩,
 f10:=⟨Tryz.f227.name,by decide,func227.trans (congrArg some (by kernel_rfl))⟩,
 t0:=underlying0,
 a0:=isAgg0,
 z0:=sizeOf0,
 v0:=zeroValue0,
 t4:=underlying4,
 a4:=isAgg4,
 z4:=sizeOf4,
 v4:=zeroValue4,
 t23:=underlying107,
 a23:=isAgg107,
 z23:=sizeOf107,
 v23:=zeroValue107,
 t26:=underlying3,
 a26:=isAgg3,
 z26:=sizeOf3,
 v26:=zeroValue3,
 t27:=underlying261,
 a27:=isAgg261,
 z27:=sizeOf261,
 v27:=zeroValue261,
 t28:=underlying262,
 a28:=isAgg262,
 z28:=sizeOf262,
 v28:=zeroValue262,
 t33:=underlying73,
 a33:=isAgg73,
 z33:=sizeOf73,
 v33 := zeroValue73 }
def Tryz.yj:Go.Shelf.Ren:=⟨fun|6=>147|8=>225|9=>226|11=>294|13=>101|12=>295|23=>159|24=>160|14=>323|15=>324|16=>325|17=>326|18=>327|19=>328|20=>329|21=>330|22=>331|25=>352|26=>230|27=>231|28=>353|29=>354|30=>355|31=>378|n=>n,fun|26=>3|28=>262|24=>22|0=>0|3=>3|37=>35|48=>58|50=>30|4=>4|40=>267|39=>266|45=>272|5=>5|9=>9|51=>358|55=>361|57=>405|58=>89|33=>73|n=>n,fun|n=>n⟩
theorem Tryz.Ts : Go.Proofs.SlLaysZI.n6 Tryz.prog Tryz.yj := {
 mixed:=by kernel_rfl,
 f6:=⟨Tryz.f147.name,by decide,func147.trans (congrArg some (by kernel_rfl))⟩,
 f8:=⟨Tryz.f225.name,by decide,func225.trans (congrArg some (by kernel_rfl))⟩,
 f11:=⟨Tryz.f294.name,by decide,func294.trans (congrArg some (by kernel_rfl))⟩,
 t0:=underlying0,
 a0:=isAgg0,
 z0:=sizeOf0,
 v0:=zeroValue0,
 t24:=underlying22,
 a24:=isAgg22,
 z24:=sizeOf22,
 v24:=zeroValue22,
 t26:=underlying3,
 a26:=isAgg3,
 z26:=sizeOf3,
 v26:=zeroValue3,
 t28:=underlying262,
 a28:=isAgg262,
 z28:=sizeOf262,
 v28:=zeroValue262,
 i26 := by kernel_rfl }
def Tryz.Me:Go.Shelf.Ren:=⟨fun|5=>226|8=>101|7=>295|19=>159|20=>160|10=>323|11=>324|12=>325|13=>326|14=>327|15=>328|16=>329|17=>330|18=>331|30=>352|31=>230|32=>231|33=>353|34=>354|35=>355|40=>378|n=>n,fun|23=>22|25=>3|3=>3|32=>35|22=>22|0=>0|44=>58|46=>30|4=>4|36=>267|35=>266|41=>272|5=>5|9=>9|53=>358|57=>361|63=>405|64=>89|n=>n,fun|n=>n⟩
theorem Tryz.VG : Go.Proofs.SlLaysM.n5 Tryz.prog Tryz.Me := {
 mixed:=by kernel_rfl,
 f5:=⟨Tryz.f226.name,by decide,func226.trans (congrArg some (by kernel_rfl))⟩,
 f7:=⟨Tryz.f295.name,by decide,func295.trans (congrArg some (by kernel_rfl))⟩,
 f8:=func101.trans (congrArg some (by kernel_rfl)),
 f10:=⟨Tryz.f323.name,by decide,func323.trans (congrArg some (by kernel_rfl))⟩,
 f11:=⟨Tryz.f324.name,by decide,func324.trans (congrArg some (by kernel_rfl))⟩,
 f12:=⟨Tryz.f325.name,by decide,func325.trans (congrArg some (by kernel_rfl))⟩,
 f13:=⟨Tryz.f326.name,by decide,func326.trans (congrArg some (by kernel_rfl))⟩,
 f14:=⟨Tryz.f327.name,by decide,func327.trans (congrArg some (by kernel_rfl))⟩,
 f15:=⟨Tryz.f328.name,by decide,func328.trans (congrArg some (by kernel_rfl))⟩,
 f16:=⟨Tryz.f329.name,by decide,func329.trans (congrArg some (by kernel_rfl))⟩,
 f17:=⟨Tryz.f330.name,by decide,func330.trans (congrArg some (by kernel_rfl))⟩,
 f18:=⟨Tryz.f331.name,by decide,func331.trans (congrArg some (by kernel_rfl))⟩,
 f19:=func159.trans (congrArg some (by kernel_rfl)),
 f20:=func160.trans (congrArg some (by kernel_rfl)),
 f30:=⟨Tryz.f352.name,by decide,func352.trans (congrArg some (by kernel_rfl))⟩,
 f31:=func230.trans (congrArg some (by kernel_rfl)),
 f32:=func231.trans (congrArg some (by kernel_rfl)),
 f33:=⟨Tryz.f353.name,by decide,func353.trans (congrArg some (by kernel_rfl))⟩,
 f34:=⟨Tryz.f354.name,by decide,func354.trans (congrArg some (by kernel_rfl))⟩,
 f35:=⟨Tryz.f355.name,by decide,func355.trans (congrArg some (by kernel_rfl))⟩,
 f40:=⟨Tryz.f378.name,by decide,func378.trans (congrArg some (by kernel_rfl))⟩,
 t0:=underlying0,
 a0:=isAgg0,
 z0:=sizeOf0,
 v0:=zeroValue0,
 t3:=underlying3,
 a3:=isAgg3,
 z3:=sizeOf3,
 v3:=zeroValue3,
 t4:=underlying4,
 a4:=isAgg4,
 z4:=sizeOf4,
 v4:=zeroValue4,
 t5:=underlying5,
 a5:=isAgg5,
 z5:=sizeOf5,
 v5:=zeroValue5,
 t9:=underlying9,
 a9:=isAgg9,
 z9:=sizeOf9,
 v9:=zeroValue9,
 t22:=underlying22,
 a22:=isAgg22,
 z22:=sizeOf22,
 v22:=zeroValue22,
 t23:=underlying22,
 a23:=isAgg22,
 z23:=sizeOf22,
 v23:=zeroValue22,
 t25:=underlying3,
 a25:=isAgg3,
 z25:=sizeOf3,
 v25:=zeroValue3,
 t32:=underlying35,
 a32:=isAgg35,
 z32:=sizeOf35,
 v32:=zeroValue35,
 t35:=underlying266,
 a35:=isAgg266,
 z35:=sizeOf266,
 v35:=zeroValue266,
 t36:=underlying267,
 a36:=isAgg267,
 z36:=sizeOf267,
 v36:=zeroValue267,
 t41:=underlying272,
 a41:=isAgg272,
 z41:=sizeOf272,
 v41:=zeroValue272,
 t44:=underlying58,
 a44:=isAgg58,
 z44:=sizeOf58,
 v44:=zeroValue58,
 t46:=underlying30,
 a46:=isAgg30,
 z46:=sizeOf30,
 v46:=zeroValue30,
 t53:=underlying358,
 a53:=isAgg358,
 z53:=sizeOf358,
 v53:=zeroValue358,
 t57:=underlying361,
 a57:=isAgg361,
 z57:=sizeOf361,
 v57:=zeroValue361,
 t63:=underlying405,
 a63:=isAgg405,
 z63:=sizeOf405,
 v63:=zeroValue405,
 t64:=underlying89,
 a64:=isAgg89,
 z64:=sizeOf89,
 v64 := zeroValue89 }
end Go.Proofs.YtcplmndikhjehaaGreat
namespace Go.Proofs.YtcplmndikhjehaaGreat
open Go.Proofs.Tryz
open Go Go.Sl Go.Sl.dA Go.RowKit Go.Maps Go.Sort Go.Shelf
set_option maxHeartbeats 0
set_option maxRecDepth 8000
variable{W0 w:World}{L F:List aC}
theorem Tt{mb ck:Nat}{kvs:List KV}(h:On W0 (bV mb .i64 kvs ck::L) w):Cs 148 [.map (some mb)] w fun v w'=>∃bb,v=.func (.func 227) #[] #[.pointer (some ⟨bb,0,none⟩)]∧On W0 (aX bb [.map (some mb)] 107::bV mb .i64 kvs ck::L) w':=by
 refine qO ?_;refine gb fun b1 w h=> ?_;refine qD ?_;refine W.ret (bf.r1 results148 rfl ?_);exact⟨b1,rfl,h⟩
theorem Mf{bb mb ck:Nat}{kvs:List KV}(hr:∀x∈kvs,(Lit.int .i64 x.1).wf=true)(hl:kvs.length≤1000000)(h:On W0 (aX bb [.map (some mb)] 107::bV mb .i64 kvs ck::L) w):Cs 147 [.func (.func 227) #[] #[.pointer (some ⟨bb,0,none⟩)]] w fun v w'=>∃(a:Option Addr) (c:Nat) (ks:List Int),v=.slice a ks.length c∧ks.Perm (kvs.map (·.1))∧ks.Pairwise (· ≤ ·)∧On W0 (Own 1 (.slice a ks.length c) ks.length (fK ks)::bV mb .i64 kvs ck::L) w':=by
 have hb:=h.block 0 rfl;obtain⟨fe,Sx⟩:=On.jH h.p1;have fH:=aG;obtain⟨D0,afA,Kr,aiE⟩:=Ee underlying3 fe hr (by omega) Sx
 have OK:SeqGives Fence.wide 2 Tryz.prog 227 #[.pointer (some ⟨bb,0,none⟩)] encZ (fun ss=>ss.Perm (intKeys D0)) (Maps.size D0) w:=
   AnyZI.keys_gives {Tryz.aaQ with} Fence.wide _ trivial rfl (by omega) bb mb kvs.length D0 w (Array.getElem?_eq_some_iff.1 hb).1 (by rw[cell_of_row w bb 0 _ _ _ hb];rfl) afA
 have OL:∀m,AnyZI.SortsIn Tryz.prog Tryz.yj Fence.wide m:=fun m=>
   ⟨fun aX off cap ss W hH afB CH => callsIn_wide.2 (AnyM.slices_Sort_int Tryz.VG aX off cap ss W hH afB CH),
    fun p cap W => callsIn_wide.2 (AnyM.slices_Sort_int_none Tryz.VG p cap W)⟩
 have cS:=AnyZI.sorted_in Tryz.Ts Fence.wide 5 trivial trivial trivial trivial rfl (by omega) (OL _) (enters_of func226 (by kernel_rfl) rfl) 227 #[.pointer (some ⟨bb,0,none⟩)] trivial (enters_of func227 (by kernel_rfl) rfl) _ _ (by omega) (by omega) _ OK
 change CallsIn _ _ Tryz.prog 147 _ _ _ at cS
 refine((callsIn_wide).1 cS).mono ?_;rintro e w' ⟨v,ss,rfl,hS,FM,_,afC⟩
 have aaR:∃a c,v=.slice a ss.length c:=by
   rcases FM.2 with⟨rfl,h0⟩|⟨g,cap,cur,rfl,_⟩
   · exact⟨none,0,by rw[h0]⟩
   exact⟨_,_,rfl⟩
 obtain⟨a,c,rfl⟩:=aaR;have hlen:(ss.mergeSort (fun x y=>decide (x≤y))).length=ss.length:=List.length_mergeSort ..;have h2:=On.newRow h afC FM;refine⟨_,rfl,a,c,ss.mergeSort (fun x y=>decide (x≤y)),by rw[hlen],((List.mergeSort_perm _ _).trans hS).trans Kr, ?_, ?_⟩
 · have:=List.pairwise_mergeSort (le:=fun x y:Int=>decide (x≤y)) (fun a b c h1 h2=>by simp only[decide_eq_true_eq] at*;omega) (fun a b=>by simp only[Bool.or_eq_true,decide_eq_true_eq];omega) ss
   exact this.imp fun h=>by simpa using h
 rw[hlen];exact h2.p1.tail
end Go.Proofs.YtcplmndikhjehaaGreat
namespace Go.Proofs.YtcplmndikhjehaaGreat
open Go.Proofs.Tryz
open Go Go.Sl Go.Sl.dA
set_option maxHeartbeats 0
set_option maxRecDepth 8000
variable{W0 w:World}{L F:List aC}
theorem Ks{l:List Int}{i:Nat}{u:Int}(h:l[i]? =some u):((fK l).drop (i*1)).take 1=[.int .i64 u]:=by
 rw[Nat.mul_one];exact row_one (by unfold fK;rw[List.getElem?_map,h];rfl)
theorem W4{x:Int}(h:0≤x)(h2:x≤4096):(Lit.int .i64 x).wf=true:=by
 have e1:IntKind.i64.min= -9223372036854775808:=rfl;have e2:IntKind.i64.max=9223372036854775807:=rfl;simp[Lit.wf];omega
theorem F6{b:Nat}{d:Dk}{pa:Option Addr}{pn pc:Nat}{aV:List Int}{ap:Option Addr}{cp:Nat}(H8:d.calls≤1000000000000000000)(h:On W0 (pU 109 221 b d pa pn pc::L) w)(C:aB L (Cells 1 (.slice ap aV.length cp) aV.length (fK aV))):Cs 92 [b,.slice ap aV.length cp] w fun v w'=>On W0 (pU 109 221 b (iu d aV) pa pn pc::L) w':=by
 refine qO ?_;have aA:=si h;obtain⟨mb,ck,rows,aa,cD,hm,h⟩:=aA;have fH:=aG;have aA:=Cells.bounds (h.aO C);obtain⟨hpc,Sy⟩:=aA;have OM:(d.m.map (·.1)).Nodup:=cD.2.2.1;have aaS:(rows.map (·.k)).Nodup:=by rw[hm,F2 rfl] at OM;exact OM
 have CH:=cD.size
 have aaT:∀x∈rows.map Rw.kv,(Lit.int .i64 x.1).wf=true:=by
   intro x hx;have aA:=List.mem_map.1 hx;obtain⟨r,hr,rfl⟩:=aA;have h2:=cD.2.2.2 r.ks (by rw[hm];exact List.mem_map.2 ⟨r,hr,rfl⟩);have h1:=cD.1;have e:r.ks.1=r.k:=rfl;exact W4 (x:=r.k) (by omega) (by omega)
 have aaU:(rows.map Rw.kv).length≤1000000:=by
   have e:d.m.length=rows.length:=by rw[hm,List.length_map]
   rw[List.length_map];omega
 refine qI (fun c2=> ?_) (fun c2=> ?_)
 · refine qR ?_;rw[IM c2];exact gN cD hm h
 refine gs fun w h _=> ?_;refine gs fun w h _=> ?_;refine qI (fun c7=> ?_) (fun c7=> ?_)
 · refine qR ?_;rw[F5 c2 c7];have vH:Dk.ok {d with off:=true,cJ:=0}:=cD;exact gN vH hm h
 refine qC ?_ (C:=Tt (h.aj (bV mb .i64 (rows.map Rw.kv) ck)));rintro _ w ⟨bb,rfl,h⟩;refine qC ?_ (C:=Mf aaT aaU h);rintro _ w ⟨ka,kc,ks,rfl,Kr,OL,h⟩;have aA:=Own.bounds h;obtain⟨hkc,hkm⟩:=aA;have Av:ks.Perm (d.m.map (·.1)):=by rw[hm,F2 rfl];rw[List.map_map] at Kr;exact Kr
 have F7:ks.Nodup:=Av.nodup_iff.2 OM;refine go ?_;refine W.loop (fun(j:Nat) env w=>j≤ks.length∧∃jk,env=eu jk [(0,b),(1,.slice ap aV.length cp),(4,.int .i64 (lC d.m ks j:Nat)),(29,.slice ka ks.length kc),(30,.int .i64 (ks.length:Nat)),(31,.int .i64 (j:Nat))]∧On W0 (Own 1 (.slice ka ks.length kc) ks.length (fK ks)::eE (kI 221 aa) (fD (dY d.m aV) (ks.take j) rows)::bV mb .i64 (rows.map Rw.kv) ck::aX b [.int .i64 d.n,.map (some mb),.bool true,.bool d.dead,.int .i64 0,.slice pa pn pc,.int .i64 d.calls] 109::aY aa::L) w) (fun j=>ks.length - j) (0) ?_ ?_
 · exact⟨Nat.zero_le _,_,aD ⟨rfl,rfl,rfl,rfl,rfl,rfl,trivial⟩,by rw[List.take_zero,IF];exact h.to⟩
 rintro j env w ⟨hj,jk,rfl,h⟩;refine go ?_;refine WL.q (cH rfl rfl) (fun zx=> ?_) (fun zx=> ?_)
 ·
  refine go ?_;refine W.ct ?_;refine W.skip ?_;refine W.seq ?_;refine W.block ?_;refine W.seq ?_;have aA:∃k,ks[j]? =some k:=⟨ks[j]'(by omega),by simp⟩;obtain⟨k,hk⟩:=aA;have hj1:j+1≤ks.length:=by omega
  have aA:=Own.addr h (by omega);obtain⟨bk,ok,rfl⟩:=aA;refine qD ?_;refine WL.l isAgg3 rfl ((h.aR (v:=.slice (some ⟨bk,ok,none⟩) ks.length kc)).elem (i:=j) (vs:=[.int .i64 k]) (by omega) (Ks hk) 0 _ rfl) ?_;refine gw ?_;refine W.seq ?_;have iG:=uF rows k
  have aA:∃(i:Nat) (r:Rw),rows[i]? =some r∧r.k=k∧dL (rows.map Rw.kv) k=some (.pointer (some ⟨r.p,0,none⟩)):=by
    rcases iG with⟨_,dX⟩|afD
    · exfalso
      have IU:k∈d.m.map (·.1):=Av.mem_iff.1 (List.mem_of_getElem? hk);rw[hm,F2 rfl] at IU;obtain⟨r,hr,he⟩:=List.mem_map.1 IU;exact dX r hr he
    exact afD
  obtain⟨i,r,hi,Fx,ON⟩:=aA;have hl:=congrArg (fun o:Option Value=>o.getD (.pointer none)) ON;have SV:(ks.take j).contains r.k=false:=by rw[Fx];exact OF F7 hk
  have yX:r∈rows:=List.mem_of_getElem? hi;have Sx:=(On.jH (h.aj (bV mb .i64 (rows.map Rw.kv) ck))).2;have OO:=LW hm aaS yX;rw[Fx] at OO
  have OP:(fD (dY d.m aV) (ks.take j) rows).set i {r with s:=dY d.m aV k r.s}=fD (dY d.m aV) (ks.take (j+1)) rows:=by
    rw[take_one hk,←Fx];exact IJ aaS hi SV
  have hlen:i<(fD (dY d.m aV) (ks.take j) rows).length:=by rw[II];exact(List.getElem?_eq_some_iff.1 hi).1
  have h:=eE.open (IG hi SV) (h.aj (eE (kI 221 aa) (fD (dY d.m aV) (ks.take j) rows)));have aA:=mC h;obtain⟨vk,a,c,vs,LK,za,jE,h⟩:=aA;have aA:=Own.bounds h.p1;obtain⟨yg,IT⟩:=aA;have hvl:=jE.1;have hwl:(r.s.wait.length:Int)≤d.calls:=(cD.2.2.2 r.ks (by rw[hm];exact List.mem_map.2 ⟨r,yX,rfl⟩)).2.2;refine go ?_;refine WL.v (gZ Sx underlying107 underlying3 zeroValue219 rfl rfl hl) ?_;refine go ?_;refine WL.q (cL rfl rfl) (fun c47=> ?_) (fun c47=> ?_)
  ·
   refine go ?_;refine W.ct ?_;have W3:r.s.wait=[]:=List.eq_nil_of_length_eq_zero (by omega);have FK:dY d.m aV k r.s=r.s:=yf W3;have Tu:lC d.m ks (j+1)=lC d.m ks j:=LX hk (by rw[OO,W3];rfl);have h:=fX LK za jE h;have h:=eE.close hlen h
   have aaV:On W0 (Own 1 (.slice (some ⟨bk,ok,none⟩) ks.length kc) ks.length (fK ks)::eE (kI 221 aa) (fD (dY d.m aV) (ks.take (j+1)) rows)::bV mb .i64 (rows.map Rw.kv) ck::aX b [.int .i64 d.n,.map (some mb),.bool true,.bool d.dead,.int .i64 0,.slice pa pn pc,.int .i64 d.calls] 109::aY aa::L) w:=by
     have aaW:(fD (dY d.m aV) (ks.take j) rows).set i r=fD (dY d.m aV) (ks.take (j+1)) rows:=by
       rw[FK] at OP;exact OP
     rw[←aaW];exact h.to
   refine go ?_;refine WL.v (di rfl rfl (by omega) (by omega)) ?_;refine gw ?_;exact⟨j+1,⟨hj1,_,aD ⟨rfl,rfl,(congrArg (fun n:Nat=>Value.int .i64 (n:Int)) Tu).symm,rfl,rfl,rfl,trivial⟩,aaV⟩,by show ks.length - (j+1)<ks.length - j;omega⟩
  refine go ?_;refine W.cs ?_;refine W.seq ?_;have W3:¬r.s.wait=[]:=by intro e;rw[e] at c47;exact c47 rfl
  have Tu : lC d.m ks (j + 1) = lC d.m ks j + 1 := LY hk (by rw [OO]; cases hww : r.s.wait with
    |nil=>exact absurd hww W3
    | cons _ _ => rfl)
  have akk:=Tr d.m ks j;have OQ:=LQ OM Av OL hk;have OQ:lC d.m ks j=LH d.m k:=OQ;have FK:=F4 (m:=d.m) (aV:=aV) (k:=k) W3;rw[←OQ] at FK;have Mg:=OG aV (lC d.m ks j) r.s.wait.length;have Ef:ks.length≤4096:=by have:=Av.length_eq;rw[List.length_map] at this;omega
  refine W.region ?_;refine gw ?_;refine W.cut (fun env w=>∃jk,env=eu jk [(0,b),(1,.slice ap aV.length cp),(4,.int .i64 (lC d.m ks j:Nat)),(7,r.p),(9,.int .i64 (mA aV (lC d.m ks j) r.s.wait.length:Nat)),(29,.slice (some ⟨bk,ok,none⟩) ks.length kc),(30,.int .i64 (ks.length:Nat)),(31,.int .i64 (j:Nat))]∧On W0 (aX r.p [vk,.slice a r.s.wait.length c] 221::Own 1 (.slice a r.s.wait.length c) r.s.wait.length vs::eE (kI 221 aa) ((fD (dY d.m aV) (ks.take j) rows).eraseIdx i)::Own 1 (.slice (some ⟨bk,ok,none⟩) ks.length kc) ks.length (fK ks)::bV mb .i64 (rows.map Rw.kv) ck::aX b [.int .i64 d.n,.map (some mb),.bool true,.bool d.dead,.int .i64 0,.slice pa pn pc,.int .i64 d.calls] 109::aY aa::L) w) ?_ ?_
  ·
   refine qI (fun w9=> ?_) (fun w9=> ?_)
   ·
    refine W.seq ?_;have aA:∃q,aV[lC d.m ks j]? =some q:=⟨aV[lC d.m ks j]'(by omega),by simp⟩;obtain⟨q,hq⟩:=aA;have hCp:=h.aO C;have aA:=hCp.addr (by omega);obtain⟨bp,op,rfl⟩:=aA;have akm: -((r.s.wait.length:Int)+1)<q.tmod ((r.s.wait.length:Int)+1):=Int.lt_tmod_of_pos q (by omega);have akn:=Int.tmod_lt_of_pos q (show(0:Int)<(r.s.wait.length:Int)+1 by omega);refine qD ?_;refine WL.l isAgg3 rfl ((h.aO C).elem (i:=lC d.m ks j) (vs:=[.int .i64 q]) (by omega) (Ks hq) 0 _ rfl) ?_;refine go ?_;refine WL.v (di rfl rfl (by omega) (by omega)) ?_;refine WL.v (rV rfl rfl (by omega)) ?_;refine qI (fun zx=> ?_) (fun zx=> ?_)
    · refine go ?_;refine WL.v (di rfl rfl (by omega) (by omega)) ?_;refine qD ?_;have hp:=LZ hq zx;exact⟨_,aD ⟨rfl,rfl,rfl,rfl,(congrArg (Value.int .i64) hp).symm,rfl,rfl,rfl,trivial⟩,h.to⟩
    refine qD ?_;have hp:=Ma hq zx;exact⟨_,aD ⟨rfl,rfl,rfl,rfl,(congrArg (Value.int .i64) hp).symm,rfl,rfl,rfl,trivial⟩,h.to⟩
   refine qD ?_;have hp:=IL (len:=r.s.wait.length) (show aV.length≤lC d.m ks j by omega);exact⟨_,aD ⟨rfl,rfl,rfl,rfl,(congrArg (Value.int .i64) hp).symm,rfl,rfl,rfl,trivial⟩,h.to⟩
  rintro env w ⟨jk,rfl,h⟩;refine go ?_;refine WL.v (di rfl rfl (by omega) (by omega)) ?_;refine gw ?_;refine W.cut (fun env w=>∃jk v2,env=eu jk [(0,b),(1,.slice ap aV.length cp),(4,.int .i64 (lC d.m ks (j+1):Nat)),(7,r.p),(29,.slice (some ⟨bk,ok,none⟩) ks.length kc),(30,.int .i64 (ks.length:Nat)),(31,.int .i64 (j:Nat))]∧fu aa v2 (dY d.m aV k r.s).kept∧v2.oneCell'=true∧On W0 (aX r.p [v2,.slice a r.s.wait.length c] 221::eE (kI 221 aa) ((fD (dY d.m aV) (ks.take j) rows).eraseIdx i)::Own 1 (.slice (some ⟨bk,ok,none⟩) ks.length kc) ks.length (fK ks)::bV mb .i64 (rows.map Rw.kv) ck::aX b [.int .i64 d.n,.map (some mb),.bool true,.bool d.dead,.int .i64 0,.slice pa pn pc,.int .i64 d.calls] 109::aY aa::L) w) ?_ ?_
  ·
   refine qI (fun c38=> ?_) (fun c38=> ?_)
   ·
    have aA:∃x,r.s.wait[mA aV (lC d.m ks j) r.s.wait.length - 1]? =some x:=⟨r.s.wait[mA aV (lC d.m ks j) r.s.wait.length - 1]'(by omega),by simp⟩;obtain⟨x,hx⟩:=aA;have aA:∃u,vs[mA aV (lC d.m ks j) r.s.wait.length - 1]? =some u:=⟨vs[mA aV (lC d.m ks j) r.s.wait.length - 1]'(by omega),by simp⟩;obtain⟨u,hu⟩:=aA;have aA:=Own.addr h.p1 (by omega);obtain⟨ba,oa,rfl⟩:=aA;have aA:=jE.2 _ u x hu hx;obtain⟨Sw,hu1⟩:=aA
    have aA:∃au nu cu,u=.slice au nu cu:=by
      have hb:=(h.aO (T:=[aY aa]) (fu.eN Sw)).form;obtain⟨a1,a2,a3,_⟩:=hb;exact⟨_,_,_,a3⟩
    obtain⟨au,nu,cu,huv⟩:=aA;subst huv;refine go ?_;refine WL.v (iD (m:=mA aV (lC d.m ks j) r.s.wait.length) (n:=1) rfl rfl (by omega) (by omega)) ?_;refine qD ?_;refine WL.l isAgg28 rfl ((h.aR (v:=.slice (some ⟨ba,oa,none⟩) r.s.wait.length c)).elem (i:=mA aV (lC d.m ks j) r.s.wait.length - 1) (vs:=[.slice au nu cu]) (by omega) (by rw[Nat.mul_one];exact row_one hu) 0 _ rfl) ?_;refine gs fun w h _=> ?_;refine gw ?_;have OR:(dY d.m aV k r.s).kept=x:=by rw[FK];unfold dA.settle;rw[if_neg (by omega),hx];rfl
    exact⟨_,.slice au nu cu,aD ⟨rfl,rfl,(congrArg (fun n:Nat=>Value.int .i64 (n:Int)) Tu).symm,rfl,rfl,rfl,rfl,trivial⟩,by rw[OR];exact Sw,rfl,h.to⟩
   refine qD ?_;have OR:(dY d.m aV k r.s).kept=r.s.kept:=by rw[FK];unfold dA.settle;rw[if_pos (by omega)]
   exact⟨_,vk,aD ⟨rfl,rfl,(congrArg (fun n:Nat=>Value.int .i64 (n:Int)) Tu).symm,rfl,rfl,rfl,rfl,trivial⟩,by rw[OR];exact LK,za,h.to⟩
  rintro env w ⟨jk,v2,rfl,hv2,afF,h⟩;refine gs fun w h _=> ?_;refine go ?_;refine WL.v (di rfl rfl (by omega) (by omega)) ?_;refine gw ?_;have hq:On W0 (aX r.p [v2,.slice none 0 0] 221::Own 1 (.slice none 0 0) 0 []::eE (kI 221 aa) ((fD (dY d.m aV) (ks.take j) rows).eraseIdx i)::Own 1 (.slice (some ⟨bk,ok,none⟩) ks.length kc) ks.length (fK ks)::bV mb .i64 (rows.map Rw.kv) ck::aX b [.int .i64 d.n,.map (some mb),.bool true,.bool d.dead,.int .i64 0,.slice pa pn pc,.int .i64 d.calls] 109::aY aa::L) w:=(h.bB 1 none).to;have h:=fX (r:={r with s:=dY d.m aV k r.s}) hv2 afF uE hq;have h:=eE.close hlen h;rw[OP] at h;exact⟨j+1,⟨hj1,_,aD ⟨rfl,rfl,rfl,rfl,rfl,rfl,trivial⟩,h.to⟩,by show ks.length - (j+1)<ks.length - j;omega⟩
 refine qD ?_;refine qR ?_;rw[CR c2 c7];have ny:fD (dY d.m aV) (ks.take j) rows=rows.map fun r=>{r with s:=dY d.m aV r.k r.s}:=IK (fun r hr=>by rw[List.take_of_length_le (by omega)];exact Av.mem_iff.2 (by rw[hm,F2 rfl];exact List.mem_map.2 ⟨r,hr,rfl⟩));rw[ny] at h;have hkv:(rows.map fun r=>{r with s:=dY d.m aV r.k r.s}).map Rw.kv=rows.map Rw.kv:=by rw[List.map_map];rfl
 have vH:Dk.ok {d with off:=true,cJ:=0,m:=oZ d.m aV}:=cD.oZ aV;rw[←hkv] at h;exact gN (mb:=mb) (ck:=ck) (aa:=aa) vH (IN hm) h.to
end Go.Proofs.YtcplmndikhjehaaGreat
namespace Go.Proofs.YtcplmndikhjehaaGreat
open Go.Proofs.Tryz
open Go Go.Sl Go.Sl.dA
set_option maxHeartbeats 0
set_option maxRecDepth 8000
variable{b:Nat}
variable{W0 w:World}{L F:List aC}
theorem bG{ao:Option Addr}{cap:Nat}{bs:List UInt8}(h:On W0 L w)(C:aB L (Bytes (.slice ao bs.length cap) bs))(hn:bs.length≤140737488355328):
   Cs 34 [.slice ao bs.length cap] w fun v w'=>∃a c,v=.slice a bs.length c∧On W0 (bC (.slice a bs.length c) bs::L) w':=by
 refine qO ?_;have aA:=(h.reads C).form;obtain⟨ao',LC,hv,vg,rz,jK⟩:=aA;simp only[Value.slice.injEq] at hv;obtain⟨rfl,_,rfl⟩:=hv;have hl:=aG;refine go ?_;refine WL.v (iF underlying28 rfl rfl) ?_;refine qI (fun c2=> ?_) (fun c2=> ?_)
 · refine qR ?_;have h0:cap=0:=jK (by simpa using c2);have hb:bs=[]:=List.eq_nil_of_length_eq_zero (by omega);subst hb;exact⟨none,0,rfl,h.bB 1 none⟩
 refine go ?_;refine WL.e (aZ (out:=[]) h underlying28 sizeOf5 zeroValue5 (by decide) (by simp) rfl rfl (by simp) trivial rfl rfl (by simp[maxLen])) ?_;rintro _ w ⟨b5,rfl,h⟩;refine go ?_;refine WL.e (mj (bytes:=1) h rfl rfl (h.aO C) underlying28 rfl rfl rfl rfl rfl (by omega) (by omega) cR) ?_;rintro _ w ⟨a,c,rfl,h⟩;refine qR ?_;exact⟨_,_,rfl,h⟩
theorem Kt{d:Dk}(gH:d.low)(h:On W0 (aQ 109 221 b d::L) w):Cs 117 [b] w fun v w'=>v=.int .i64 (dP d).1∧On W0 (aQ 109 221 b (dP d).2::L) w':=by
 refine qO ?_;have aA:=sj h;obtain⟨pa,pc,h⟩:=aA;have aA:=si h;obtain⟨mb,ck,rows,aa,cD,hm,h⟩:=aA;obtain⟨H8,har⟩:=gH;have Ko:=cD.2.1;refine qI (fun c2=> ?_) (fun c2=> ?_)
 ·
  refine qS fun w h _=> ?_;refine qI (fun c5=> ?_) (fun c5=> ?_)
  ·
   refine W.seq ?_;have h1:d.cJ=1:=by omega
   have e1:d.cJ - 1=0:=by omega
   rw[e1] at h;have vH:Dk.ok {d with cJ:=0}:=cD;refine qC ?_ (C:=F6 (d:={d with cJ:=0}) (Int.le_trans H8 (by decide)) (gN (d:={d with cJ:=0}) (mb:=mb) (ck:=ck) (rows:=rows) (aa:=aa) vH hm h) (aB.cF (v:=.slice pa d.aV.length pc)));rintro _ w h;refine qR ?_;rw[IQ h1];exact⟨rfl,Kq (vG _ _) h⟩
  refine qS fun w h _=> ?_;refine qR ?_;rw[IP c2 (by omega)];have vH:=(cD.Ox (d.cJ - 1)).1;have h:=gN vH hm h;exact⟨rfl,kW h⟩
 refine qS fun w h _=> ?_;refine qR ?_;rw[Au c2];have vH:=(cD.Ox d.cJ).1;have h:=gN vH hm h;exact⟨rfl,kW h⟩
theorem W5{d:Dk}{aV:List Int}{ap:Option Addr}{cp:Nat}(H8:d.calls≤1000000000000000000)(h:On W0 (aQ 109 221 b d::L) w)(C:aB L (Cells 1 (.slice ap aV.length cp) aV.length (fK aV))):Cs 92 [b,.slice ap aV.length cp] w fun v w'=>On W0 (aQ 109 221 b (iu d aV)::L) w':=by
 obtain⟨pa,pc,h⟩:=sj h;refine(F6 H8 h (aB.cons (jV _ _ _ _) C)).mono fun e w' he=> ?_;obtain⟨v,he,h⟩:=he;exact⟨v,he,Kq (vG _ _) h⟩
theorem vI{d:Dk}{k:Int}{ax:Option Addr}{cx:Nat}{bs:List UInt8}(gH:d.low)(h:On W0 (aQ 109 221 b d::L) w)(C:aB L (Bytes (.slice ax bs.length cx) bs)):Cs 75 [b,.int .i64 k,.slice ax bs.length cx] w fun v w'=>v=.int .i64 (bT d k bs).1∧On W0 (aQ 109 221 b (bT d k bs).2::L) w':=by
 refine qO ?_;have aaX:=w8 h;refine qC ?_ (C:=IS h);rintro _ w ⟨rfl,h⟩;refine qI (fun c3=> ?_) (fun c3=> ?_)
 · refine qR ?_;have e:=LL (k:=k) (bs:=bs) (rfl:mB d=mB d) c3;exact⟨by rw[e],by rw[e];exact h⟩
 refine W.skip ?_;refine W.seq ?_;refine W.seq ?_;have ki:mB d=0:=Decidable.not_not.1 c3;refine qC ?_ (C:=aaO h);rintro _ w ⟨rfl,h⟩;refine WL.q (ey rfl) (fun tq=> ?_) (fun tq=> ?_)
 · refine qD ?_;refine qR ?_;have e:=As (bs:=bs) ki (fun hh=>tq ⟨hh.1,hh.2.1⟩);exact⟨by rw[e],by rw[e];exact h⟩
 refine qI (fun c8=> ?_) (fun c8=> ?_)
 · refine qR ?_;have e:=As (k:=k) (bs:=bs) ki (fun hh=>by omega);exact⟨by rw[e],by rw[e];exact h⟩
 refine W.skip ?_;refine W.seq ?_;refine W.seq ?_;have Ol:=Decidable.not_not.1 tq;have aaY:0≤k∧k<d.n∧bs.length≤512:=⟨Ol.1,Ol.2,by omega⟩;refine qC ?_ (C:=Kt gH h);rintro _ w ⟨rfl,h⟩;refine qI (fun pW=> ?_) (fun pW=> ?_)
 · refine qR ?_;have e:=FW ki aaY pW;exact⟨by rw[e],by rw[e];exact h⟩
 refine W.skip ?_;refine W.seq ?_;refine W.seq ?_;have Ko:(dP d).1=0:=Decidable.not_not.1 pW;have aA:=aaX.aaN Ko;obtain⟨aaZ,aa0,uI⟩:=aA;have OS:=CO ki aaY Ko;have aA:∃d2,d2=(dP d).2:=⟨_,rfl⟩;obtain⟨d2,Ss⟩:=aA;rw[←Ss] at h aaZ aa0 uI OS;have aa1:Dk.ok {d2 with m:=oX d2.m k bs}:=aaZ.add (by omega) aa0 bs
 have aiI:d2.calls≤1000000000001:=by
   have iG:=oL (d:=d);have Eg:=gH.1;rcases iG with⟨_,a,e,_⟩|⟨_,e⟩
   · rw[Ss,e];show d.calls+1≤_;omega
   rw[e] at Ko;cases Ko
 have aA:=sj h;obtain⟨pa,pc,h⟩:=aA;have aA:=si h;obtain⟨mb,ck,rows,aa,cD,hm,h⟩:=aA;have aA:=On.jH h.p1;obtain⟨fe,Sx⟩:=aA;have OM:=F0 fe;refine qD ?_;have iG:=uF rows k;rcases iG with⟨ON,dX⟩|⟨i,r,hi,hk,ON⟩<;>(have hl:=congrArg (fun o:Option Value=>o.getD (.pointer none)) ON)<;>refine WL.v (gZ Sx underlying107 underlying3 zeroValue219 rfl rfl hl) ?_
 ·
  refine qD ?_;refine gb fun VH w h=> ?_;refine WL.e (jI (v:=.pointer (some ⟨VH,0,none⟩)) (h.aj (bV mb .i64 (rows.map Rw.kv) ck)) underlying107 underlying3 rfl rfl rfl) ?_;rintro _ w h;have aA:=Ec (p:=VH) (ck:=ck) dX;obtain⟨W6,vJ⟩:=aA;rw[W6,vJ] at h;refine qD ?_
  have afH:On W0 (kI 221 aa (⟨k,VH,ck,⟨[],[]⟩⟩:Rw)::eE (kI 221 aa) rows::aX b [.int .i64 d2.n,.map (some mb),.bool d2.off,.bool d2.dead,.int .i64 d2.cJ,.slice pa d2.aV.length pc,.int .i64 d2.calls] 109::bV mb .i64 ((rows++[(⟨k,VH,ck,⟨[],[]⟩⟩:Rw)]).map Rw.kv) (ck+1)::aY aa::Own 1 (.slice pa d2.aV.length pc) d2.aV.length (fK d2.aV)::L) w:=by
    refine fX (a:=none) (c:=0) (.inr ⟨rfl,rfl⟩) rfl uE ?_;have h2:=h.bB 1 none;exact h2.to
  have h:=eE.push afH
  have aA:∃(eW:List Rw) (mO i:Nat) (r:Rw),eW[i]? =some r∧r.k=k∧dL (eW.map Rw.kv) k=some (.pointer (some ⟨r.p,0,none⟩))∧oX d2.m k bs=(eW.set i {r with s:=⟨r.s.kept,r.s.wait++[bs]⟩}).map Rw.ks∧(eW.map (·.k)).Nodup∧(r.s.wait.length:Int)≤d2.calls∧
      On W0 (eE (kI 221 aa) eW::aX b [.int .i64 d2.n,.map (some mb),.bool d2.off,.bool d2.dead,.int .i64 d2.cJ,.slice pa d2.aV.length pc,.int .i64 d2.calls] 109::bV mb .i64 (eW.map Rw.kv) mO::aY aa::Own 1 (.slice pa d2.aV.length pc) d2.aV.length (fK d2.aV)::L) w:=by
    have afI:((rows++[(⟨k,VH,ck,⟨[],[]⟩⟩:Rw)]).map (·.k)).Nodup:=by
      rw[List.map_append];refine List.nodup_append.2 ⟨OM,by simp, ?_⟩;intro x hx y hy;simp at hy;subst hy;rintro rfl;obtain⟨r,hr,he⟩:=List.mem_map.1 hx;exact dX r hr he
    refine⟨rows++[(⟨k,VH,ck,⟨[],[]⟩⟩:Rw)],ck+1,rows.length,(⟨k,VH,ck,⟨[],[]⟩⟩:Rw),by simp,rfl,Ou dX, ?_,afI,by show((0:Nat):Int)≤d2.calls;omega,h⟩;have hd:d2.m=rows.map Rw.ks:=hm;rw[hd,Ov dX,List.set_append_right _ _ (Nat.le_refl _)];simp[Rw.ks]
  obtain⟨eW,mO,i,r,hi,hk,Aw,Il,OP,hwl,h⟩:=aA;have h:=eE.open hi h;have aA:=mC h;obtain⟨vk,a,c,vs,LK,za,jE,h⟩:=aA;have hvl:=jE.1;have aA:=Own.bounds h.p1;obtain⟨yg,IT⟩:=aA;have hl:=congrArg (fun o:Option Value=>o.getD (.pointer none)) Aw;have fH:=aG;refine W.draw Tryz.follows h (fun w h=> ?_);refine WT.m 0 rfl ?_;refine WT.n 1 rfl rfl ?_;refine WT.f 2 1 rfl underlying109 rfl sizeOf107 rfl rfl ?_;refine WT.l 3 rfl isAgg107 rfl (h.aS rfl) ?_;refine WT.m 4 rfl ?_;refine WT.take 5 (fun w=>w.heap[mb]? =some (jy .i64 (eW.map Rw.kv) mO)) rfl (by kernel_rfl) rfl rfl ((On.jH (h.aj (bV mb .i64 (eW.map Rw.kv) mO))).2) (fun w' hC=>gZ hC underlying107 underlying3 zeroValue219 rfl rfl hl) ?_;refine WT.m 6 rfl ?_;refine WT.n 7 rfl rfl ?_;refine WT.f 8 1 rfl underlying109 rfl sizeOf107 rfl rfl ?_;refine WT.l 9 rfl isAgg107 rfl (h.aS rfl) ?_;refine WT.m 10 rfl ?_;refine WT.take 11 (fun w=>w.heap[mb]? =some (jy .i64 (eW.map Rw.kv) mO)) rfl (by kernel_rfl) rfl rfl ((On.jH (h.aj (bV mb .i64 (eW.map Rw.kv) mO))).2) (fun w' hC=>gZ hC underlying107 underlying3 zeroValue219 rfl rfl hl) ?_;refine WT.n 12 rfl rfl ?_;refine WT.f 13 1 rfl underlying221 rfl sizeOf212 rfl rfl ?_;refine WT.l 14 rfl isAgg212 rfl (h.aS rfl) ?_;refine WT.m 15 rfl ?_;refine WT.e 16 [true,true,true,true,true] rfl (ag call34 (bG h (aB.to C) (by omega))) ?_;rintro _ w ⟨OT,H9,rfl,h⟩;refine⟨⟨h.aS rfl,(On.jH (h.aj (bV mb .i64 (eW.map Rw.kv) mO))).2,h.aS rfl,(On.jH (h.aj (bV mb .i64 (eW.map Rw.kv) mO))).2,h.aS rfl,trivial⟩, ?_⟩;refine WT.e 17 [true,true,true,true,true] rfl (aZ (zl:=[.slice none 0 0]) (out:=[.slice _ _ _]) h underlying212 sizeOf28 zeroValue28 (by decide) (by kernel_rfl) rfl rfl (by simp) fz rfl rfl (by simp[maxLen])) ?_;rintro _ w ⟨b59,rfl,h⟩;refine⟨⟨h.aS rfl,(On.jH (h.aj (bV mb .i64 (eW.map Rw.kv) mO))).2,h.aS rfl,(On.jH (h.aj (bV mb .i64 (eW.map Rw.kv) mO))).2,h.aS rfl,trivial⟩, ?_⟩;refine WT.e 18 [false,false,false,true,true] rfl (bU (bytes:=24) h rfl rfl (h.aR) underlying212 rfl rfl rfl rfl rfl (by omega) (by omega) (by simp[Value.oneCell'])) ?_;rintro _ w ⟨a60,c60,rfl,h⟩;refine⟨⟨(On.jH (h.aj (bV mb .i64 (eW.map Rw.kv) mO))).2,h.aS rfl,trivial⟩, ?_⟩;refine WT.n 19 rfl rfl ?_;refine WT.f 20 1 rfl underlying221 rfl sizeOf212 rfl rfl ?_;refine WT.e 21 [false,false] rfl (bI (v:=.slice _ _ _) h sizeOf212 rfl rfl rfl rfl rfl) ?_;rintro _ w h
  try simp only[Nat.zero_add,Nat.add_zero,List.set_cons_zero,List.set_cons_succ] at h
  refine⟨trivial, ?_⟩;refine WT.dn ?_;refine qR ?_;have h:=((h.aj (aY aa)).aj (bC (.slice OT bs.length H9) bs)).mU;have h:=Ow (T:=109) (TS:=221) (b:=b) (v:=.slice OT bs.length H9) (L:=Own 1 (.slice pa d2.aV.length pc) d2.aV.length (fK d2.aV)::L) (pa:=pa) (pn:=d2.aV.length) (pc:=pc) (mb:=mb) (ck:=mO) (a:=a60) (c:=c60) aa1 hi Il LK za jE rfl h.to;refine⟨by rw[OS], ?_⟩;rw[OS];exact kW h
 refine WL.v (gz underlying219 rfl rfl) ?_;refine go ?_;refine W.cs ?_;refine qD ?_
 have aA:∃(eW:List Rw) (mO:Nat),eW[i]? =some r∧dL (eW.map Rw.kv) k=some (.pointer (some ⟨r.p,0,none⟩))∧oX d2.m k bs=(eW.set i {r with s:=⟨r.s.kept,r.s.wait++[bs]⟩}).map Rw.ks∧(eW.map (·.k)).Nodup∧(r.s.wait.length:Int)≤d2.calls∧
     On W0 (eE (kI 221 aa) eW::aX b [.int .i64 d2.n,.map (some mb),.bool d2.off,.bool d2.dead,.int .i64 d2.cJ,.slice pa d2.aV.length pc,.int .i64 d2.calls] 109::bV mb .i64 (eW.map Rw.kv) mO::aY aa::Own 1 (.slice pa d2.aV.length pc) d2.aV.length (fK d2.aV)::L) w:=by
   have hd:d2.m=rows.map Rw.ks:=hm;exact⟨rows,ck,hi,ON,by rw[hd];exact LJ OM hi hk,OM,(cD.2.2.2 r.ks (by rw[hd];exact List.mem_map.2 ⟨r,List.mem_of_getElem? hi,rfl⟩)).2.2,h.to⟩
 obtain⟨eW,mO,hi,Aw,Il,OP,hwl,h⟩:=aA;have h:=eE.open hi h;have aA:=mC h;obtain⟨vk,a,c,vs,LK,za,jE,h⟩:=aA;have hvl:=jE.1;have aA:=Own.bounds h.p1;obtain⟨yg,IT⟩:=aA;have hl:=congrArg (fun o:Option Value=>o.getD (.pointer none)) Aw;have fH:=aG;refine W.draw Tryz.follows h (fun w h=> ?_);refine WT.m 0 rfl ?_;refine WT.n 1 rfl rfl ?_;refine WT.f 2 1 rfl underlying109 rfl sizeOf107 rfl rfl ?_;refine WT.l 3 rfl isAgg107 rfl (h.aS rfl) ?_;refine WT.m 4 rfl ?_;refine WT.take 5 (fun w=>w.heap[mb]? =some (jy .i64 (eW.map Rw.kv) mO)) rfl (by kernel_rfl) rfl rfl ((On.jH (h.aj (bV mb .i64 (eW.map Rw.kv) mO))).2) (fun w' hC=>gZ hC underlying107 underlying3 zeroValue219 rfl rfl hl) ?_;refine WT.m 6 rfl ?_;refine WT.n 7 rfl rfl ?_;refine WT.f 8 1 rfl underlying109 rfl sizeOf107 rfl rfl ?_;refine WT.l 9 rfl isAgg107 rfl (h.aS rfl) ?_;refine WT.m 10 rfl ?_;refine WT.take 11 (fun w=>w.heap[mb]? =some (jy .i64 (eW.map Rw.kv) mO)) rfl (by kernel_rfl) rfl rfl ((On.jH (h.aj (bV mb .i64 (eW.map Rw.kv) mO))).2) (fun w' hC=>gZ hC underlying107 underlying3 zeroValue219 rfl rfl hl) ?_;refine WT.n 12 rfl rfl ?_;refine WT.f 13 1 rfl underlying221 rfl sizeOf212 rfl rfl ?_;refine WT.l 14 rfl isAgg212 rfl (h.aS rfl) ?_;refine WT.m 15 rfl ?_;refine WT.e 16 [true,true,true,true,true] rfl (ag call34 (bG h (aB.to C) (by omega))) ?_;rintro _ w ⟨OT,H9,rfl,h⟩;refine⟨⟨h.aS rfl,(On.jH (h.aj (bV mb .i64 (eW.map Rw.kv) mO))).2,h.aS rfl,(On.jH (h.aj (bV mb .i64 (eW.map Rw.kv) mO))).2,h.aS rfl,trivial⟩, ?_⟩;refine WT.e 17 [true,true,true,true,true] rfl (aZ (zl:=[.slice none 0 0]) (out:=[.slice _ _ _]) h underlying212 sizeOf28 zeroValue28 (by decide) (by kernel_rfl) rfl rfl (by simp) fz rfl rfl (by simp[maxLen])) ?_;rintro _ w ⟨b59,rfl,h⟩;refine⟨⟨h.aS rfl,(On.jH (h.aj (bV mb .i64 (eW.map Rw.kv) mO))).2,h.aS rfl,(On.jH (h.aj (bV mb .i64 (eW.map Rw.kv) mO))).2,h.aS rfl,trivial⟩, ?_⟩;refine WT.e 18 [false,false,false,true,true] rfl (bU (bytes:=24) h rfl rfl (h.aR) underlying212 rfl rfl rfl rfl rfl (by omega) (by omega) (by simp[Value.oneCell'])) ?_;rintro _ w ⟨a60,c60,rfl,h⟩;refine⟨⟨(On.jH (h.aj (bV mb .i64 (eW.map Rw.kv) mO))).2,h.aS rfl,trivial⟩, ?_⟩;refine WT.n 19 rfl rfl ?_;refine WT.f 20 1 rfl underlying221 rfl sizeOf212 rfl rfl ?_;refine WT.e 21 [false,false] rfl (bI (v:=.slice _ _ _) h sizeOf212 rfl rfl rfl rfl rfl) ?_;rintro _ w h
 try simp only[Nat.zero_add,Nat.add_zero,List.set_cons_zero,List.set_cons_succ] at h
 refine⟨trivial, ?_⟩;refine WT.dn ?_;refine qR ?_;have h:=((h.aj (aY aa)).aj (bC (.slice OT bs.length H9) bs)).mU;have h:=Ow (T:=109) (TS:=221) (b:=b) (v:=.slice OT bs.length H9) (L:=Own 1 (.slice pa d2.aV.length pc) d2.aV.length (fK d2.aV)::L) (pa:=pa) (pn:=d2.aV.length) (pc:=pc) (mb:=mb) (ck:=mO) (a:=a60) (c:=c60) aa1 hi Il LK za jE rfl h.to;refine⟨by rw[OS], ?_⟩;rw[OS];exact kW h
end Go.Proofs.YtcplmndikhjehaaGreat
namespace Go.Sl
open Go
section
variable{P:Program}{w:World}{ρ:Operand→Value}{d:Option Nat}{ty:TypeId}{pos:String}{af:Array Edge}{g:Option (Nat×Bool)}
theorem ym{t:TypeId}{x:Operand}{m:Nat}(hx:ρ x=.int .u32 (m:Int))(hm:m<4294967296):
   (execOp ρ ⟨d,.unOp .xor t x,ty,pos,af,g⟩).run P w=.ok (.value (.int .u32 ((4294967295^^^m:Nat):Int))) w:=by
 have h1:(BitVec.ofInt 32 (IntKind.u32.max)^^^BitVec.ofInt 32 (m:Int)).toNat=4294967295^^^m:=by
   rw[BitVec.toNat_xor,BitVec.toNat_ofInt,BitVec.toNat_ofInt];have e1:((IntKind.u32.max % ((2^32:Nat):Int)).toNat)=4294967295:=by decide
   have e2:(((m:Int) % ((2^32:Nat):Int)).toNat)=m:=by omega
   rw[e1,e2]
 have h2:(4294967295^^^m)<2^32:=Nat.xor_lt_two_pow (by decide) (by omega);have h3:IntKind.wrap .u32 ((4294967295^^^m:Nat):Int)=((4294967295^^^m:Nat):Int):=oI _ (by show(0:Int)≤_;omega) (by show _≤(4294967295:Int);omega);have h5:IntKind.u32.signed=false:=rfl;have Su:(BitVec.ofInt IntKind.u32.bits IntKind.u32.max^^^BitVec.ofInt IntKind.u32.bits (m:Int)).toNat=4294967295^^^m:=h1;simp only[execOp,hx,Op.unary,Op.intBits,h5,Bool.false_eq_true,if_false,Sem.run_bind,Sem.run_pure,Result.andThen_ok,Su,h3]
theorem IV{t:TypeId}{x:Operand}{m:Nat}(hx:ρ x=.int .u32 (m:Int))(hm:m<2):
   (execOp ρ ⟨d,.unOp .neg t x,ty,pos,af,g⟩).run P w=.ok (.value (.int .u32 ((m*4294967295:Nat):Int))) w:=by
 have h:m=0∨m=1:=by omega
 rcases h with rfl|rfl
 · simp[execOp,hx,Op.unary,Op.intArith,IntKind.wrap,IntKind.signed,IntKind.bits]
 simp[execOp,hx,Op.unary,Op.intArith,IntKind.wrap,IntKind.signed,IntKind.bits]
end
end Go.Sl
namespace Go.Sl.eM
open Go Go.Sl
variable{v:Nat}
def kX(v n k:Nat):List UInt8:=(List.range k).map fun(q:Nat)=>UInt8.ofNat (v / 2^(8*(n - 1 - q)))
theorem sq(v n k:Nat):(kX v n k).length=k:=by simp[kX]
theorem xg(v n k:Nat):kX v n (k+1)=kX v n k++[UInt8.ofNat (v / 2^(8*(n - 1 - k)))]:=by simp[kX,List.range_succ]
abbrev be(v n:Nat):List UInt8:=kX v n n
theorem aT(v n:Nat):(be v n).length=n:=sq v n n
def uJ(bs:List UInt8):Nat:=bs.foldl (fun v c=>v*256+c.toNat) 0
theorem Ax(bs:List UInt8)(c:UInt8):uJ (bs++[c])=uJ bs*256+c.toNat:=by simp[uJ]
theorem su(bs:List UInt8):uJ bs<256^bs.length:=by
 rw[←List.reverse_reverse bs];generalize bs.reverse=l
 induction l with
 |nil=>decide
 | cons c l ih=>
   rw[List.reverse_cons,Ax,List.length_append,List.length_singleton,Nat.pow_succ];have:=c.toNat_lt;omega
theorem F8(v n:Nat):∀k,k≤n→uJ (kX v n k)=v / 2^(8*(n - k)) % 256^k
 |0,_=>by simp[kX,uJ,Nat.mod_one]
 | k+1,h=>by
   rw[xg,Ax,F8 v n k (by omega),show n - 1 - k=n - (k+1) by omega];rw[UInt8.toNat_ofNat'];have e:8*(n - k)=8*(n - (k+1))+8:=by omega
   rw[e,Nat.pow_add,←Nat.div_div_eq_div_mul];generalize v / 2^(8*(n - (k+1)))=x;rw[Nat.pow_succ]
   have h1:x / 2^8 % 256^k*256+x % 256=x % (256^k*256):=by
     rw[Nat.mul_comm (256^k) 256,Nat.mod_mul,show(2:Nat)^8=256 from rfl];omega
   exact h1
theorem sw{n:Nat}(h:v<256^n):uJ (be v n)=v:=by
 unfold be;rw[F8 v n n (Nat.le_refl _),Nat.sub_self];simp;exact Nat.mod_eq_of_lt h
theorem Tv(v:Nat)(c:UInt8):v*256|||c.toNat=v*256+c.toNat:=by
 have h:c.toNat<2^8:=by have:=c.toNat_lt;omega
 have:=Nat.two_pow_add_eq_or_of_lt h v;rw[Nat.mul_comm v 256];exact this.symm
def Mh:Nat:=2197175160
def sN(v:Nat):Nat:=(v>>>1)^^^(if v.testBit 0 then Mh else 0)
def s4(v:Nat):Nat:=sN (sN (sN (sN v)))
theorem Eh(a b:Nat):sN (a^^^b)=sN a^^^sN b:=by
 unfold sN;rw[Nat.shiftRight_xor_distrib,Nat.testBit_xor];cases a.testBit 0<;>cases b.testBit 0
 · simp
 · simp[Nat.xor_assoc]
 · simp only[Bool.xor_false,if_true,Bool.false_eq_true,if_false,Nat.xor_zero]
   rw[Nat.xor_assoc,Nat.xor_assoc,Nat.xor_comm (b>>>1)]
 simp only[Bool.xor_self,Bool.false_eq_true,if_false,if_true,Nat.xor_zero];rw[Nat.xor_assoc,←Nat.xor_assoc Mh,Nat.xor_comm Mh,Nat.xor_assoc,Nat.xor_self,Nat.xor_zero]
theorem W7(a b:Nat):s4 (a^^^b)=s4 a^^^s4 b:=by
 unfold s4;rw[Eh,Eh,Eh,Eh]
theorem vK(x k:Nat):sN (x<<<(k+1))=x<<<k:=by
 unfold sN;have h:(x<<<(k+1)).testBit 0=false:=by rw[Nat.testBit_shiftLeft];simp
 rw[h];simp only[Bool.false_eq_true,if_false,Nat.xor_zero];apply Nat.eq_of_testBit_eq;intro i;rw[Nat.testBit_shiftRight,Nat.testBit_shiftLeft,Nat.testBit_shiftLeft];by_cases hk:k≤i
 · simp[hk,show k+1≤1+i by omega,show 1+i - (k+1)=i - k by omega]
 simp[hk,show ¬k+1≤1+i by omega]
theorem OU(x:Nat):s4 (x<<<4)=x:=by
 unfold s4;rw[vK x 3,vK x 2,vK x 1,vK x 0];simp
theorem W8(v:Nat):v=((v>>>4)<<<4)^^^(v % 16):=by
 apply Nat.eq_of_testBit_eq;intro i;rw[Nat.testBit_xor,Nat.testBit_shiftLeft,Nat.testBit_shiftRight];have e:v % 16=v % 2^4:=rfl;rw[e,Nat.testBit_mod_two_pow];by_cases h:4≤i
 · simp[h,show ¬i<4 by omega,show 4+(i - 4)=i by omega]
 simp[h,show i<4 by omega]
theorem OV(v:Nat):(v>>>4)^^^s4 (v % 16)=s4 v:=by
 conv=>rhs;rw[W8 v,W7,OU]
theorem CU(h:v<4294967296):sN v<4294967296:=by
 unfold sN;have h1:v>>>1<2^32:=by rw[Nat.shiftRight_eq_div_pow];omega
 split
 · exact Nat.xor_lt_two_pow h1 (by decide)
 rw[Nat.xor_zero];exact h1
theorem Ay(h:v<4294967296):s4 v<4294967296:=CU (CU (CU (CU h)))
def W9(v:Nat)(c:UInt8):Nat:=s4 (s4 (v^^^c.toNat))
theorem Tw(h:v<4294967296)(c:UInt8):W9 v c<4294967296:=Ay (Ay (Nat.xor_lt_two_pow (n:=32) h (by have:=c.toNat_lt;omega)))
def gl(v:Nat)(bs:List UInt8):Nat:=bs.foldl W9 v
theorem Ku(h:v<4294967296)(bs:List UInt8):gl v bs<4294967296:=by
 induction bs generalizing v with
 |nil=>exact h
 |cons c bs ih=>exact ih (Tw h c)
theorem Mi(v:Nat)(bs:List UInt8)(c:UInt8):gl v (bs++[c])=W9 (gl v bs) c:=by simp[gl]
def Az(bs:List UInt8):Nat:=4294967295^^^gl 4294967295 bs
def four(s:Nat):List UInt8:=[UInt8.ofNat s,UInt8.ofNat (s / 2^8),UInt8.ofNat (s / 2^16),UInt8.ofNat (s / 2^24)]
def dR(bs:List UInt8):List UInt8:=bs++four (Az bs)
def eX(bs:List UInt8):List UInt8×Int:=if bs.length<4 then([],3) else if four (Az (bs.take (bs.length - 4)))≠bs.drop (bs.length - 4) then([],4) else(bs.take (bs.length - 4),0)
def gI(bs:List UInt8)(n:Nat):List UInt8:=bs++List.replicate (n - bs.length) 0
theorem CV(v:Nat):(v / 2^1)^^^((v % 2^1*4294967295)&&&Mh)=sN v:=by
 unfold sN;rw[Nat.shiftRight_eq_div_pow]
 congr 1
 rw[Nat.testBit_zero];have h:v % 2=0∨v % 2=1:=by omega
 rcases h with h|h
 · simp[h]
 simp[h];decide
end Go.Sl.eM
namespace Go.Sl.eM
open Go Go.Sl
theorem kr{L:List aC}{a:Option Addr}{c l h:Nat}{bs:List UInt8}(g:aB L (Bytes (.slice a bs.length c) bs))(hc:bs.length≤c)(h1:l≤h)(h2:h≤bs.length):
   ∃a' c',sliced a l h c 1=.slice a' ((bs.drop l).take (h - l)).length c'∧aB L (Bytes (.slice a' ((bs.drop l).take (h - l)).length c') ((bs.drop l).take (h - l))):=by
 have hlen:((bs.drop l).take (h - l)).length=h - l:=by rw[List.length_take,List.length_drop];omega
 refine⟨(if c=l then a else a.map (·.add (l*1))),c - l,by rw[hlen];rfl,fun hh H=> ?_⟩;have c1:=(g hh H).cut h1 h2 (by omega) (Nat.le_refl _)
 have e:((aL bs).drop (l*1)).take ((h - l)*1)=aL ((bs.drop l).take (h - l)):=by
   unfold aL;rw[List.map_take,List.map_drop,Nat.mul_one,Nat.mul_one]
 rw[e] at c1;unfold Bytes;rw[hlen];exact c1
theorem F9{L:List aC}{a:Option Addr}{c h:Nat}{bs:List UInt8}(g:aB L (Bytes (.slice a bs.length c) bs))(h2:h≤bs.length):
   aB L (Bytes (.slice a (bs.take h).length c) (bs.take h)):=fun hh H=>by
 have hlen:(bs.take h).length=h:=by rw[List.length_take];omega
 have c1:=(g hh H).front h2;have e:(aL bs).take (h*1)=aL (bs.take h):=by unfold aL;rw[List.map_take,Nat.mul_one]
 rw[e] at c1;unfold Bytes;rw[hlen];exact c1
def uK(i:Nat):List Value:=(List.range 16).map fun j=> .int .u32 ((if j<i then s4 j else 0:Nat):Int)
theorem OW(i:Nat)(hi:i<16):(uK i).set (i*1) (.int .u32 (s4 i:Int))=uK (i+1):=by
 rw[Nat.mul_one];unfold uK;apply List.ext_getElem
 · simp
 intro j h1 h2;simp at h1;rw[List.getElem_set];by_cases hj:i=j
 · subst hj;simp
 simp only[hj,if_false,List.getElem_map,List.getElem_range];by_cases h3:j<i
 · simp[h3,show j<i+1 by omega]
 simp[h3,show ¬j<i+1 by omega]
theorem mD(i:Nat):(uK i).length=16:=by simp[uK]
theorem OX(i:Nat):∀u∈uK i,u.oneCell'=true:=by
 intro u hu;obtain⟨j,_,rfl⟩:=List.mem_map.1 hu;rfl
theorem Kv{i:Nat}(h:i<16):((uK 16).drop (i*1)).take 1=[.int .u32 (s4 i:Int)]:=by
 rw[Nat.mul_one,List.drop_eq_getElem_cons (by rw[mD];exact h),List.take_succ_cons,List.take_zero];simp[uK,h]
theorem Ei{z vs:List Value}(h:z.length=vs.length):cE z 0 vs=vs:=by
 unfold cE;rw[List.take_zero,List.nil_append,Nat.zero_add,←h,List.drop_length,List.append_nil]
theorem zy(v:Nat):(v / 2^4)^^^s4 (v % 2^4)=s4 v:=by
 have:=OV v;rw[Nat.shiftRight_eq_div_pow] at this;exact this
def Kw:Nat→Nat→Nat
 |0,v=>v
 |k+1,v=>sN (Kw k v)
theorem OY{v:Nat}(h:v<4294967296):∀k,Kw k v<4294967296
 |0=>h
 |k+1=>CU (OY h k)
theorem afL(v:Nat):Kw 4 v=s4 v:=rfl
end Go.Sl.eM
namespace Go.Sl
open Go
section
variable{P:Program}{w:World}{ρ:Operand→Value}{d:Option Nat}{ty:TypeId}{pos:String}{af:Array Edge}{g:Option (Nat×Bool)}
theorem tr{t yt:TypeId}{x y:Operand}{m n r:Nat}(hx:ρ x=.int .i64 (m:Int))(hy:ρ y=.int .i64 (n:Int))(h:n≤m)(h':m≤9223372036854775807)(hr:m - n=r):(execOp ρ ⟨d,.binOp .sub t x y yt,ty,pos,af,g⟩).run P w=.ok (.value (.int .i64 (r:Int))) w:=by
 rw[←hr];exact iD hx hy h h'
end
end Go.Sl
namespace Go.Sl
open Go
section
variable{P:Program}{w:World}{ρ:Operand→Value}{d:Option Nat}{ty:TypeId}{pos:String}{af:Array Edge}{g:Option (Nat×Bool)}
end
end Go.Sl
namespace Go.Sl
open Go
section
variable{P:Program}{w:World}{ρ:Operand→Value}{d:Option Nat}{ty:TypeId}{pos:String}{af:Array Edge}{g:Option (Nat×Bool)}
end
end Go.Sl
namespace Go.Proofs.YtcplmndikhjehaaGreat
open Go.Proofs.Tryz
open Go Go.Sl Go.Sl.eM
set_option maxHeartbeats 0
set_option maxRecDepth 8000
variable{W0 w:World}{L F:List aC}
theorem cU{a:Option Addr}{n c:Nat}{xs:List Value}(h:On W0 (Own 1 (.slice a n c) n xs::L) w):
   Cs 33 [.slice a n c] w fun v w'=>v=.slice a n n∧On W0 (Own 1 (.slice a n n) n xs::L) w':=by
 refine qO ?_;have aA:=Own.form h;obtain⟨a',c',hv,vg,rz,jK⟩:=aA;simp only[Value.slice.injEq] at hv;obtain⟨rfl,_,rfl⟩:=hv;refine go ?_;refine WL.v (iO underlying28 sizeOf5 rfl rfl rfl (by omega) (by omega)) ?_;refine qR ?_;exact⟨rfl,Own.clip h⟩
theorem dm{ax:Option Addr}{cx v n:Nat}{bs:List UInt8}(h:On W0 L w)(C:aB L (Bytes (.slice ax bs.length cx) bs))(uI:1≤n)(hn8:n≤8)(hv:v<18446744073709551616)(hb:bs.length≤140737488350000):Calls Tryz.prog 78 #[.slice ax bs.length cx,.int .u64 (v:Int),.int .i64 (n:Int)] (w) (wU fun r w'=>∃a,r=.slice a (bs++be v n).length (bs++be v n).length∧On W0 (bC (.slice a (bs++be v n).length (bs++be v n).length) (bs++be v n)::L) w'):=by
 refine qO ?_;have fH:=aG;unfold be;refine qC ?_ (C:=bG h C (by omega));rintro _ w ⟨sA,mP,rfl,h⟩;refine go ?_;refine WL.v (dB rfl rfl (by omega)) ?_;refine go ?_;refine WL.v (eV rfl rfl (by omega)) ?_;refine WL.pf ?_;refine go ?_;refine W.cf ?_;refine go ?_;refine WL.v (iD (m:=n) (n:=1) rfl rfl (by omega) (by omega)) ?_;refine go ?_;refine W.loop (fun(k:Nat) env w=>∃(j:Env) (ao:Option Addr) (co:Nat) (z:Int),env=eu j [(1,.int .u64 (v:Int)),(7,.slice ao (bs++kX v n k).length co),(8,.int .i64 z)]∧k≤n∧z=(n:Int) - 1 - k∧On W0 (bC (.slice ao (bs++kX v n k).length co) (bs++kX v n k)::L) w) (fun k=>n - k) (0) ?_ ?_
 · have e0:bs++kX v n 0=bs:=by simp[kX]
   refine⟨_,sA,mP,((n - 1:Nat):Int),aD ⟨rfl,(by rw[e0];rfl),rfl,trivial⟩,Nat.zero_le _,by omega,(by rw[e0];exact h)⟩
 rintro k env w ⟨j,ao,co,z,rfl,hk,hz,h⟩;have ja:(bs++kX v n k).length=bs.length+k:=by rw[List.length_append,sq]
 refine qI (fun ou=> ?_) (fun ou=> ?_)
 ·
  refine W.skip ?_;refine W.seq ?_;refine W.block ?_;have aA:=Int.eq_ofNat_of_zero_le (show 0≤z by omega);obtain⟨q,rfl⟩:=aA;have hq:n - 1 - k=q:=by omega
  have e1:bs++kX v n (k+1)=(bs++kX v n k)++[UInt8.ofNat (v / 2^(8*q))]:=by rw[xg,hq,List.append_assoc]
  have el:(bs++kX v n (k+1)).length=(bs++kX v n k).length+1:=by rw[e1,List.length_append];rfl
  refine go ?_;refine WL.v (dr (m:=8) (n:=q) rfl rfl (by omega)) ?_;refine WL.v (jb (m:=v) (j:=8*q) rfl rfl (by show 8*q≤64;omega)) ?_;refine qD ?_;refine WL.e (aZ (zl:=[.int .u8 0]) (out:=[.int .u8 _]) h underlying28 sizeOf5 zeroValue5 (by decide) (by kernel_rfl) rfl rfl (by simp) fz rfl rfl (by simp[maxLen])) ?_;rintro _ w ⟨b30,rfl,h⟩;refine WL.e (bU (bytes:=1) h rfl rfl (h.aR) underlying28 rfl rfl rfl rfl rfl (by omega) (by omega) (by simp[Value.oneCell'])) ?_;rintro _ w ⟨a31,VI,rfl,h⟩;have Tx:aL (bs++kX v n k)++[.int .u8 (((UInt8.ofNat (v / 2^(8*q))).toNat:Nat):Int)]=aL ((bs++kX v n k)++[UInt8.ofNat (v / 2^(8*q))]):=by simp[aL,tY]
  have h:On W0 (Own 1 (.slice a31 ((bs++kX v n k).length+1) VI) ((bs++kX v n k).length+1) (aL (bs++kX v n k)++[.int .u8 (((UInt8.ofNat (v / 2^(8*q))).toNat:Nat):Int)])::_) w:=h;rw[Tx] at h;refine qD ?_;exact⟨k+1,⟨_,a31,VI,(q:Int) - 1,aD ⟨rfl,(by rw[el];rfl),rfl,trivial⟩,by omega,by omega,(by unfold bC;rw[el,e1];exact h.to)⟩,by show n - (k+1)<n - k;omega⟩
 refine qC ?_ (C:=cU h);rintro _ w ⟨rfl,h⟩;refine qR ?_;have aA:k=n:=by omega
 obtain rfl:=aA;exact⟨ao,rfl,h⟩
theorem jS{ax:Option Addr}{cx:Nat}{bs:List UInt8}{at_ n:Int}(h:On W0 L w)(C:aB L (Bytes (.slice ax bs.length cx) bs)):Calls Tryz.prog 109 #[.slice ax bs.length cx,.int .i64 at_,.int .i64 n] (w) (wU fun v w'=>((1≤n∧n≤8∧0≤at_∧at_≤bs.length∧n≤bs.length - at_)∧v=.tuple #[.int .u64 (uJ ((bs.drop at_.toNat).take n.toNat):Int),.bool true]∧On W0 L w')∨(¬(1≤n∧n≤8∧0≤at_∧at_≤bs.length∧n≤bs.length - at_)∧v=.tuple #[.int .u64 0,.bool false]∧On W0 L w')):=by
 refine qO ?_;have fH:=aG;have aA:=Cells.bounds (h.aO C);obtain⟨yg,IT⟩:=aA;refine go ?_;refine WL.q (cH rfl rfl) (fun nB=> ?_) (fun nB=> ?_)
 · refine qD ?_;refine qR ?_;exact .inr ⟨by omega,rfl,h⟩
 refine go ?_;refine WL.q (iU rfl rfl) (fun kY=> ?_) (fun kY=> ?_)
 · refine qD ?_;refine qR ?_;exact .inr ⟨by omega,rfl,h⟩
 refine qN ?_;refine WL.q (cH rfl rfl) (fun CY=> ?_) (fun CY=> ?_)
 · refine qD ?_;refine qR ?_;exact .inr ⟨by omega,rfl,h⟩
 refine qN ?_;refine WL.q (iU rfl rfl) (fun Fy=> ?_) (fun Fy=> ?_)
 · refine qD ?_;refine qR ?_;exact .inr ⟨by omega,rfl,h⟩
 refine qI (fun c2=> ?_) (fun c2=> ?_)
 · refine qR ?_;exact .inr ⟨by omega,rfl,h⟩
 refine W.skip ?_;refine W.seq ?_;have cD:(1≤n∧n≤8∧0≤at_∧at_≤bs.length∧n≤bs.length - at_):=by omega
 have aA:=Int.eq_ofNat_of_zero_le (show 0≤at_ by omega);obtain⟨p,rfl⟩:=aA;have aA:=Int.eq_ofNat_of_zero_le (show 0≤n by omega);obtain⟨q,rfl⟩:=aA;have Sz:p+q≤bs.length:=by omega
 have aA:=kr (l:=p) C yg (by omega) Sz;obtain⟨a',c',eY,gC⟩:=aA;have ja:((bs.drop p).take (p+q - p)).length=q:=by rw[List.length_take,List.length_drop];omega
 have Xa:p+q - p=q:=by omega
 rw[Xa] at eY gC ja;refine qN ?_;refine WL.v (nO (l:=p) (h:=p+q) underlying28 sizeOf5 rfl rfl rfl (by omega) (by omega) eY) ?_;refine go ?_;refine W.loop (fun(k:Nat) env w=>k≤q∧∃j,env=eu j [(8,.int .u64 (uJ ((bs.drop p).take k):Nat)),(40,.slice a' ((bs.drop p).take q).length c'),(41,.int .i64 (((bs.drop p).take q).length:Nat)),(42,.int .i64 (k:Nat))]∧On W0 L w) (fun k=>q - k) (0) ?_ ?_
 · exact⟨Nat.zero_le _,_,aD ⟨rfl,rfl,rfl,rfl,trivial⟩,h⟩
 rintro k env w ⟨hk,j,rfl,h⟩;refine qI (fun ou=> ?_) (fun ou=> ?_)
 ·
  refine W.skip ?_;refine W.seq ?_;refine W.block ?_;refine W.seq ?_;have hkq:k<q:=by omega
  have aA:∃c,((bs.drop p).take q)[k]? =some c:=⟨((bs.drop p).take q)[k]'(by omega),List.getElem?_eq_getElem _⟩;obtain⟨c,hc⟩:=aA;have H6:(bs.drop p)[k]? =some c:=by rw[List.getElem?_take,if_pos hkq] at hc;exact hc
  have gg:=h.aO gC;have aA:=Cells.addr gg (by omega);obtain⟨ba,oa,Ej⟩:=aA;subst Ej
  have dW:uJ ((bs.drop p).take k)<2^56:=by
    have h1:=su ((bs.drop p).take k);have h2:((bs.drop p).take k).length≤7:=by rw[List.length_take];omega
    have h3:256^((bs.drop p).take k).length≤256^7:=Nat.pow_le_pow_right (by decide) h2;omega
  have Kx:uJ ((bs.drop p).take (k+1))=uJ ((bs.drop p).take k)*2^8|||c.toNat:=by
    rw[pT H6,Ax,show(2:Nat)^8=256 from rfl,Tv]
  have hc8:=c.toNat_lt;have wV:uJ ((bs.drop p).take k)*2^8≤18446744073709551615:=by omega
  have Ga:c.toNat≤18446744073709551615:=by omega
  have VJ:uJ ((bs.drop p).take k)*2^8|||c.toNat≤18446744073709551615:=by
    rw[←Kx];have h1:=su ((bs.drop p).take (k+1));have h2:((bs.drop p).take (k+1)).length≤8:=by rw[List.length_take];omega
    have h3:256^((bs.drop p).take (k+1)).length≤256^8:=Nat.pow_le_pow_right (by decide) h2;omega
  refine qD ?_;refine WL.l isAgg5 rfl ((h.aO gC).elem (i:=k) (vs:=[.int .u8 (c.toNat:Int)]) (by omega) (dJ hc) 0 _ rfl) ?_;refine go ?_;refine WL.v (mq (m:=uJ ((bs.drop p).take k)) (j:=8) rfl rfl (by decide) (Int.ofNat_le.2 wV)) ?_;refine qD ?_;refine WL.v (Kp (k:=.u64) (m:=uJ ((bs.drop p).take k)*2^8) (n:=c.toNat) rfl rfl (Int.ofNat_le.2 wV) (Int.ofNat_le.2 Ga) (Int.ofNat_le.2 VJ)) ?_;refine go ?_;refine WL.v (di rfl rfl (by omega) (by omega)) ?_;refine gw ?_;exact⟨k+1,⟨by omega,_,aD ⟨(congrArg (fun z:Nat=>Value.int .u64 (z:Int)) Kx).symm,rfl,rfl,rfl,trivial⟩,h⟩,by show q - (k+1)<q - k;omega⟩
 refine qR ?_;have aA:k=q:=by omega
 obtain rfl:=aA;exact .inl ⟨cD,rfl,h⟩
end Go.Proofs.YtcplmndikhjehaaGreat
