/- strings.IndexAny. -/
import Derived.Test.YthecjdgffboedaaDoorExt15t
